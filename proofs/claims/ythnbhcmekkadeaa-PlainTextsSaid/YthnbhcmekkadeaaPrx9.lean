/- Written by a program of this session (printx.py), with functions proved by hand counted as printed; Lean checks it. -/
import Derived.Test.YthnbhcmekkadeaaPrx0
import Derived.Test.YthnbhcmekkadeaaPrx5
import Derived.Test.YthnbhcmekkadeaaPrx6
import Derived.Test.YthnbhcmekkadeaaPrx8
namespace Go.Proofs.Ythnbhcmekkadeaa.Pr
open Go.RowKit Go.Proofs.YthnbhcmekkadeaaW.PrintWords Go.Proofs.YthnbhcmekkadeaaW.PrintLast Go.Proofs.YthnbhcmekkadeaaW.PrintMore
attribute [local go_sem] max2_int min2_int max_two min_two max_three min_three max_four min_four   -- for this text's walks alone
set_option linter.unusedVariables false
set_option linter.unusedSimpArgs false

private theorem sz_2 (a0 a1 : UInt8) : (⟨#[a0, a1]⟩ : ByteArray).size = 2 := rfl

/-! ### muslinref14_Small: function 15 -/
def muslinref14_Small.f (k : Nat) (l0 : List (S36)) : Option (Bool) := (muslinref14_walk.f k l0 35).bind fun t223 => (some (decide (t223 ≤ 60)))
theorem muslinref14_Small.mono : ∀ a0 k, LeO (muslinref14_Small.f k a0) (muslinref14_Small.f (k + 1) a0) := by
  intro a0 k
  unfold muslinref14_Small.f
  repeat' first
      | (with_reducible exact muslinref14_walk.mono _ _ _)
      | (with_reducible exact LeO.refl _)
      | (with_reducible exact LeO.none _)
      | (with_reducible refine LeO.ite ?_ ?_)
      | (with_reducible refine LeO.bind ?_ (fun _ => ?_))
      | exact muslinref14_walk.mono _ _ _
      | exact LeO.none _
      | refine LeO.ite ?_ ?_
      | refine LeO.bind ?_ (fun _ => ?_)
set_option maxHeartbeats 8000000 in
set_option maxRecDepth 100000 in
theorem muslinref14_Small.calls (k : Nat) (A0 : Option Addr) (c0 : Nat) (l0 : List (S36)) (r : Bool) (w : World) (hr0 : Kd.C k36 w A0 l0.length l0) (hc0 : l0.length ≤ c0) (h : muslinref14_Small.f k l0 = some r) :
    Calls Try.prog 15 #[.slice A0 l0.length c0] w fun e w' => e = .returned (.bool r) ∧ Drawn0 w w' := by
  have HR0 := Aside0.mk hr0
  have HC0 := Aside0.mk hc0
  clear hr0 hc0
  have H : ((muslinref14_walk.f k l0 35).bind fun t223 => (some (decide (t223 ≤ 60)))) = some r := h
  clear h
  replace H := Option.bind_eq_some_iff.mp H
  obtain ⟨t223, A20, H⟩ := H
  replace H : (some (decide (t223 ≤ 60))) = some r := H
  have A2 := Aside0.mk A20
  clear A20
  obtain rfl := Option.some.inj H
  go_enter Try.func15, Try.ntmps15
  go_wp2_with (first | ((with_reducible refine gate_callee (f := 25) rfl ?_); refine goesL_ (some 4) rfl rfl Try.func25 (by kernel_rfl) rfl #[.slice A0 l0.length c0, .int .i64 35] rfl (by (try simp only [List.map_toArray, List.map_cons, List.map_nil]); first | done | rfl | (simp only [List.length_drop, List.length_take]; rfl)) ?_; (with_reducible refine (muslinref14_walk.calls k _ _ l0 35 t223 _ ?side1 ?side2 A2.out).mono ?_); (case side1 => repeat (first | exact HR0.out | (with_reducible refine Kd.C_alloc ?_ _) | (with_reducible refine Kd.C_drewN ?_ _) | (with_reducible refine Kd.C_drew ?_))); (case side2 => exact HC0.out); rintro e w' ⟨rfl, ⟨nd, rfl⟩⟩; refine ⟨_, rfl, ?_⟩))
  go_ret
  exact ⟨by first | rfl | (simp; done) | (simp [*]; done), by repeat (first | exact Drawn0.refl _ | apply Drawn0.step)⟩

/-! ### muslinref20_Text: function 17 -/
mutual
def muslinref20_Text.l0 : Nat → List (S36) → ByteArray → Int → Option (ByteArray)
  | 0, _, _, _ => none
  | k + 1, x0, x3, x4 => if x4 < (x0.length : Int) then (if 0 ≤ x4 then (if ((rd_T36 x0 x4).f0).toList = ([] : List UInt8) then (if x3.size + ((rd_T36 x0 x4).f2).size ≤ 9223372036854775807 then (muslinref20_Text.l0 k x0 (x3 ++ ((rd_T36 x0 x4).f2)) (wrap64 (x4 + 1))) else (none)) else (if ((rd_T36 x0 x4).f0).toList = ([98, 114] : List UInt8) then (if x3.size + 1 ≤ 9223372036854775807 then (muslinref20_Text.l0 k x0 (x3 ++ (⟨#[10]⟩ : ByteArray)) (wrap64 (x4 + 1))) else (none)) else (if ((rd_T36 x0 x4).f0).toList = ([98, 108, 111, 99, 107, 113, 117, 111, 116, 101] : List UInt8) then (if x3.toList = ([] : List UInt8) then (muslinref20_Text.j1 k x0 x3 x4 false) else (if 0 ≤ (wrap64 ((x3.size : Int) - 1)) then (if (wrap64 ((x3.size : Int) - 1)) < (x3.size : Int) then (muslinref20_Text.j1 k x0 x3 x4 ((bt x3 (wrap64 ((x3.size : Int) - 1))) != 10)) else (none)) else (none))) else ((muslinref20_Text.f k ((rd_T36 x0 x4).f3)).bind fun t233 => (if x3.size + t233.size ≤ 9223372036854775807 then (muslinref20_Text.l0 k x0 (x3 ++ t233) (wrap64 (x4 + 1))) else (none)))))) else (none)) else (some x3)
def muslinref20_Text.j1 : Nat → List (S36) → ByteArray → Int → Bool → Option (ByteArray)
  | 0, _, _, _, _ => none
  | k + 1, x0, x3, x4, x50 => if x50 = true then (if x3.size + 1 ≤ 9223372036854775807 then (muslinref20_Text.j2 k x0 (x3 ++ (⟨#[10]⟩ : ByteArray)) x4) else (none)) else (muslinref20_Text.j2 k x0 x3 x4)
def muslinref20_Text.j2 : Nat → List (S36) → ByteArray → Int → Option (ByteArray)
  | 0, _, _, _ => none
  | k + 1, x0, x3, x4 => if 0 ≤ x4 then (if x4 < (x0.length : Int) then ((muslinref20_Text.f k ((rd_T36 x0 x4).f3)).bind fun t227 => ((muslinref06_Cut.f k t227).bind fun t228 => (muslinref20_Text.l1 k x0 x3 x4 t228 0))) else (none)) else (none)
def muslinref20_Text.l1 : Nat → List (S36) → ByteArray → Int → List ByteArray → Int → Option (ByteArray)
  | 0, _, _, _, _, _ => none
  | k + 1, x0, x3, x4, x5, x6 => if x6 < (x5.length : Int) then (if x3.size + 2 ≤ 9223372036854775807 then (if 0 ≤ x6 then (if (x3 ++ (⟨#[62, 32]⟩ : ByteArray)).size + (rdOf ByteArray.empty x5 x6).size ≤ 9223372036854775807 then (if ((x3 ++ (⟨#[62, 32]⟩ : ByteArray)) ++ (rdOf ByteArray.empty x5 x6)).size + 1 ≤ 9223372036854775807 then (muslinref20_Text.l1 k x0 (((x3 ++ (⟨#[62, 32]⟩ : ByteArray)) ++ (rdOf ByteArray.empty x5 x6)) ++ (⟨#[10]⟩ : ByteArray)) x4 x5 (wrap64 (x6 + 1))) else (none)) else (none)) else (none)) else (none)) else (muslinref20_Text.l0 k x0 x3 (wrap64 (x4 + 1)))
def muslinref20_Text.f : Nat → List (S36) → Option (ByteArray)
  | 0, _ => none
  | k + 1, l0 => muslinref20_Text.l0 k l0 (⟨#[]⟩ : ByteArray) 0
end
theorem muslinref20_Text.mono_l : ∀ k, (∀ y0, LeO (muslinref20_Text.f k y0) (muslinref20_Text.f (k + 1) y0)) ∧ (∀ y0 y1 y2, LeO (muslinref20_Text.l0 k y0 y1 y2) (muslinref20_Text.l0 (k + 1) y0 y1 y2)) ∧ (∀ y0 y1 y2 y3, LeO (muslinref20_Text.j1 k y0 y1 y2 y3) (muslinref20_Text.j1 (k + 1) y0 y1 y2 y3)) ∧ (∀ y0 y1 y2, LeO (muslinref20_Text.j2 k y0 y1 y2) (muslinref20_Text.j2 (k + 1) y0 y1 y2)) ∧ (∀ y0 y1 y2 y3 y4, LeO (muslinref20_Text.l1 k y0 y1 y2 y3 y4) (muslinref20_Text.l1 (k + 1) y0 y1 y2 y3 y4))
  | 0 => ⟨fun _ r h => by simp [muslinref20_Text.f] at h, fun _ _ _ r h => by simp [muslinref20_Text.l0] at h, fun _ _ _ _ r h => by simp [muslinref20_Text.j1] at h, fun _ _ _ r h => by simp [muslinref20_Text.j2] at h, fun _ _ _ _ _ r h => by simp [muslinref20_Text.l1] at h⟩
  | k + 1 => by
    obtain ⟨ih0, ih1, ih2, ih3, ih4⟩ := muslinref20_Text.mono_l k
    refine ⟨?_, ?_, ?_, ?_, ?_⟩
    · intro y0
      unfold muslinref20_Text.f
      repeat' first
      | (with_reducible exact ih0 _)
      | (with_reducible exact ih1 _ _ _)
      | (with_reducible exact ih2 _ _ _ _)
      | (with_reducible exact ih3 _ _ _)
      | (with_reducible exact ih4 _ _ _ _ _)
      | (with_reducible exact muslinref06_Cut.mono _ _)
      | (with_reducible exact LeO.refl _)
      | (with_reducible exact LeO.none _)
      | (with_reducible refine LeO.ite ?_ ?_)
      | (with_reducible refine LeO.bind ?_ (fun _ => ?_))
      | exact ih0 _
      | exact ih1 _ _ _
      | exact ih2 _ _ _ _
      | exact ih3 _ _ _
      | exact ih4 _ _ _ _ _
      | exact muslinref06_Cut.mono _ _
      | exact LeO.none _
      | refine LeO.ite ?_ ?_
      | refine LeO.bind ?_ (fun _ => ?_)
    · intro y0 y1 y2
      unfold muslinref20_Text.l0
      repeat' first
      | (with_reducible exact ih0 _)
      | (with_reducible exact ih1 _ _ _)
      | (with_reducible exact ih2 _ _ _ _)
      | (with_reducible exact ih3 _ _ _)
      | (with_reducible exact ih4 _ _ _ _ _)
      | (with_reducible exact muslinref06_Cut.mono _ _)
      | (with_reducible exact LeO.refl _)
      | (with_reducible exact LeO.none _)
      | (with_reducible refine LeO.ite ?_ ?_)
      | (with_reducible refine LeO.bind ?_ (fun _ => ?_))
      | exact ih0 _
      | exact ih1 _ _ _
      | exact ih2 _ _ _ _
      | exact ih3 _ _ _
      | exact ih4 _ _ _ _ _
      | exact muslinref06_Cut.mono _ _
      | exact LeO.none _
      | refine LeO.ite ?_ ?_
      | refine LeO.bind ?_ (fun _ => ?_)
    · intro y0 y1 y2 y3
      unfold muslinref20_Text.j1
      repeat' first
      | (with_reducible exact ih0 _)
      | (with_reducible exact ih1 _ _ _)
      | (with_reducible exact ih2 _ _ _ _)
      | (with_reducible exact ih3 _ _ _)
      | (with_reducible exact ih4 _ _ _ _ _)
      | (with_reducible exact muslinref06_Cut.mono _ _)
      | (with_reducible exact LeO.refl _)
      | (with_reducible exact LeO.none _)
      | (with_reducible refine LeO.ite ?_ ?_)
      | (with_reducible refine LeO.bind ?_ (fun _ => ?_))
      | exact ih0 _
      | exact ih1 _ _ _
      | exact ih2 _ _ _ _
      | exact ih3 _ _ _
      | exact ih4 _ _ _ _ _
      | exact muslinref06_Cut.mono _ _
      | exact LeO.none _
      | refine LeO.ite ?_ ?_
      | refine LeO.bind ?_ (fun _ => ?_)
    · intro y0 y1 y2
      unfold muslinref20_Text.j2
      repeat' first
      | (with_reducible exact ih0 _)
      | (with_reducible exact ih1 _ _ _)
      | (with_reducible exact ih2 _ _ _ _)
      | (with_reducible exact ih3 _ _ _)
      | (with_reducible exact ih4 _ _ _ _ _)
      | (with_reducible exact muslinref06_Cut.mono _ _)
      | (with_reducible exact LeO.refl _)
      | (with_reducible exact LeO.none _)
      | (with_reducible refine LeO.ite ?_ ?_)
      | (with_reducible refine LeO.bind ?_ (fun _ => ?_))
      | exact ih0 _
      | exact ih1 _ _ _
      | exact ih2 _ _ _ _
      | exact ih3 _ _ _
      | exact ih4 _ _ _ _ _
      | exact muslinref06_Cut.mono _ _
      | exact LeO.none _
      | refine LeO.ite ?_ ?_
      | refine LeO.bind ?_ (fun _ => ?_)
    · intro y0 y1 y2 y3 y4
      unfold muslinref20_Text.l1
      repeat' first
      | (with_reducible exact ih0 _)
      | (with_reducible exact ih1 _ _ _)
      | (with_reducible exact ih2 _ _ _ _)
      | (with_reducible exact ih3 _ _ _)
      | (with_reducible exact ih4 _ _ _ _ _)
      | (with_reducible exact muslinref06_Cut.mono _ _)
      | (with_reducible exact LeO.refl _)
      | (with_reducible exact LeO.none _)
      | (with_reducible refine LeO.ite ?_ ?_)
      | (with_reducible refine LeO.bind ?_ (fun _ => ?_))
      | exact ih0 _
      | exact ih1 _ _ _
      | exact ih2 _ _ _ _
      | exact ih3 _ _ _
      | exact ih4 _ _ _ _ _
      | exact muslinref06_Cut.mono _ _
      | exact LeO.none _
      | refine LeO.ite ?_ ?_
      | refine LeO.bind ?_ (fun _ => ?_)
theorem muslinref20_Text.mono : ∀ a0 k, LeO (muslinref20_Text.f k a0) (muslinref20_Text.f (k + 1) a0) := by
  intro a0 k
  obtain ⟨ih0, ih1, ih2, ih3, ih4⟩ := muslinref20_Text.mono_l k
  exact ih0 a0
set_option maxHeartbeats 8000000 in
set_option maxRecDepth 100000 in
theorem muslinref20_Text.calls (k : Nat) : ∀ (A0 : Option Addr) (c0 : Nat) (l0 : List (S36)) (r : ByteArray) (w : World) (hr0 : Kd.C k36 w A0 l0.length l0) (hc0 : l0.length ≤ c0) (h : muslinref20_Text.f k l0 = some r),
    Calls Try.prog 17 #[.slice A0 l0.length c0] w fun e w' => e = .returned (.string r) ∧ Below w.heap.size w w' := by
  induction k using Nat.strongRecOn with
  | _ k ih =>
  intro A0 c0 l0 r w hr0 hc0 h
  cases k with
  | zero => exact absurd h (by simp [muslinref20_Text.f])
  | succ k =>
  simp only [muslinref20_Text.f] at h
  have HR0 := Aside0.mk hr0
  have HC0 := Aside0.mk hc0
  clear hr0 hc0
  have HB := Aside0.mk (Below.refl w.heap.size w)
  have H : (muslinref20_Text.l0 k l0 (⟨#[]⟩ : ByteArray) 0) = some r := h
  clear h
  have H' := Aside0.mk H
  clear H
  go_enter Try.func17, Try.ntmps17
  go_wp2
  go_loopg [3, 4] k (fun kq v3 v4 w' => ∃ (x3_1 : ByteArray) (x4_1 : Int), v3 = .string x3_1 ∧ v4 = .int .i64 x4_1 ∧ Aside0 (muslinref20_Text.l0 kq l0 x3_1 x4_1 = some r) ∧ Aside0 (kq ≤ k) ∧ Aside0 (Below w.heap.size w w'))
  case atStart => exact ⟨((⟨#[]⟩ : ByteArray)), (0), (by first | rfl | (simp; done) | (simp [*]; done)), (by first | rfl | (simp; done) | (simp [*]; done)), H', ⟨Nat.le_refl _⟩, ⟨by repeat (first | (with_reducible first | exact HB.out | apply below_alloc | apply pw_below_drewN | apply below_drew1) | exact HB.out)⟩⟩
  case round =>
    clear H'
    try clear c1
    obtain ⟨x3_1, x4_1, rfl, rfl, HA, HK1, HB⟩ := hrel
    cases gk with
    | zero => exact absurd HA.out (by simp [muslinref20_Text.l0])
    | succ k1 =>
      have H := HA.out
      clear HA
      simp only [muslinref20_Text.l0] at H
      by_cases c2 : x4_1 < (l0.length : Int)
      · rw [if_pos c2] at H
        have c2b0 : decide (x4_1 < (l0.length : Int)) = true := decide_eq_true c2
        clear c2
        by_cases c3 : 0 ≤ x4_1
        · rw [if_pos c3] at H
          have c3b0 : decide (0 ≤ x4_1) = true := decide_eq_true c3
          clear c3
          by_cases c4 : ((rd_T36 l0 x4_1).f0).toList = ([] : List UInt8)
          · rw [if_pos c4] at H
            have c4b0 : (((rd_T36 l0 x4_1).f0).toList == ([] : List UInt8)) = true := beq_iff_eq.mpr c4
            have c4b1 : (((rd_T36 l0 x4_1).f0).toList != ([] : List UInt8)) = false := bne_eq_false_iff_eq.mpr c4
            clear c4
            by_cases c5 : x3_1.size + ((rd_T36 l0 x4_1).f2).size ≤ 9223372036854775807
            · rw [if_pos c5] at H
              have c5b0 := eq_true c5
              have c5b1 : decide (x3_1.size + ((rd_T36 l0 x4_1).f2).size ≤ 9223372036854775807) = true := decide_eq_true c5
              try have c5b2 : (9223372036854775807 < x3_1.size + ((rd_T36 l0 x4_1).f2).size) = False := eq_false (Nat.not_lt.2 c5)
              have H' := Aside0.mk H
              clear H
              have p224 : 0 ≤ (x4_1 : Int) := of_decide_eq_true (by first | (with_reducible assumption) | assumption)
              have q224 : x4_1 < (l0.length : Int) := of_decide_eq_true (by first | (with_reducible assumption) | assumption)
              obtain ⟨ad224, A224_1, c224_1, A224_3, c224_3, e224, hx224_0, hx224_1, hx224_2, hx224_3, hl224_1, hi224_1, hl224_3, hi224_3⟩ := at_T36 HR0.out x4_1 p224 q224
              cases e224
              replace hx224_0 := (HB.out.cell (World.block_lt_of_cell? w _ hx224_0)).trans hx224_0
              replace hx224_1 := (HB.out.cell (World.block_lt_of_cell? w _ hx224_1)).trans hx224_1
              replace hx224_2 := (HB.out.cell (World.block_lt_of_cell? w _ hx224_2)).trans hx224_2
              replace hx224_3 := (HB.out.cell (World.block_lt_of_cell? w _ hx224_3)).trans hx224_3
              have HR224_1 := Aside0.mk hi224_1
              have HC224_1 := Aside0.mk hl224_1
              clear hi224_1 hl224_1
              have HR224_3 := Aside0.mk hi224_3
              have HC224_3 := Aside0.mk hl224_3
              clear hi224_3 hl224_3
              replace p224 := eq_true p224
              replace q224 := eq_true q224
              have p225 : 0 ≤ (x4_1 : Int) := of_decide_eq_true (by first | (with_reducible assumption) | assumption)
              have q225 : x4_1 < (l0.length : Int) := of_decide_eq_true (by first | (with_reducible assumption) | assumption)
              obtain ⟨ad225, A225_1, c225_1, A225_3, c225_3, e225, hx225_0, hx225_1, hx225_2, hx225_3, hl225_1, hi225_1, hl225_3, hi225_3⟩ := at_T36 HR0.out x4_1 p225 q225
              obtain rfl : ad224 = ad225 := (by injection e225)
              replace hx225_0 := (HB.out.cell (World.block_lt_of_cell? w _ hx225_0)).trans hx225_0
              replace hx225_1 := (HB.out.cell (World.block_lt_of_cell? w _ hx225_1)).trans hx225_1
              replace hx225_2 := (HB.out.cell (World.block_lt_of_cell? w _ hx225_2)).trans hx225_2
              replace hx225_3 := (HB.out.cell (World.block_lt_of_cell? w _ hx225_3)).trans hx225_3
              have HR225_1 := Aside0.mk hi225_1
              have HC225_1 := Aside0.mk hl225_1
              clear hi225_1 hl225_1
              have HR225_3 := Aside0.mk hi225_3
              have HC225_3 := Aside0.mk hl225_3
              clear hi225_3 hl225_3
              replace p225 := eq_true p225
              replace q225 := eq_true q225
              have ea_ := Option.some.inj (hx224_1.symm.trans hx225_1)
              injection ea_ with ea_ en_ ec_
              subst ea_
              subst ec_
              clear en_
              have ea_ := Option.some.inj (hx224_3.symm.trans hx225_3)
              injection ea_ with ea_ en_ ec_
              subst ea_
              subst ec_
              clear en_
              go_wp2
              go_roundg k1
              case measure => have := HK1.out; omega
              case rel => exact ⟨(x3_1 ++ ((rd_T36 l0 x4_1).f2)), (wrap64 (x4_1 + 1)), (by first | rfl | (simp; done) | (simp [*]; done)), (by first | rfl | (simp; done) | (simp [*]; done)), H', ⟨by have := HK1.out; omega⟩, ⟨by repeat (first | (with_reducible first | exact HB.out | apply below_alloc | apply pw_below_drewN | apply below_drew1) | exact HB.out)⟩⟩
            · rw [if_neg c5] at H
              exact absurd H (by simp)
          · rw [if_neg c4] at H
            have c4b0 : (((rd_T36 l0 x4_1).f0).toList == ([] : List UInt8)) = false := beq_eq_false_iff_ne.mpr c4
            have c4b1 : (((rd_T36 l0 x4_1).f0).toList != ([] : List UInt8)) = true := bne_iff_ne.mpr c4
            by_cases c6 : ((rd_T36 l0 x4_1).f0).toList = ([98, 114] : List UInt8)
            · rw [if_pos c6] at H
              have c6b0 : (((rd_T36 l0 x4_1).f0).toList == ([98, 114] : List UInt8)) = true := beq_iff_eq.mpr c6
              have c6b1 : (((rd_T36 l0 x4_1).f0).toList != ([98, 114] : List UInt8)) = false := bne_eq_false_iff_eq.mpr c6
              clear c6
              by_cases c7 : x3_1.size + 1 ≤ 9223372036854775807
              · rw [if_pos c7] at H
                have c7b0 := eq_true c7
                have c7b1 : decide (x3_1.size + 1 ≤ 9223372036854775807) = true := decide_eq_true c7
                try have c7b2 : (9223372036854775807 < x3_1.size + 1) = False := eq_false (Nat.not_lt.2 c7)
                have H' := Aside0.mk H
                clear H
                have p224 : 0 ≤ (x4_1 : Int) := of_decide_eq_true (by first | (with_reducible assumption) | assumption)
                have q224 : x4_1 < (l0.length : Int) := of_decide_eq_true (by first | (with_reducible assumption) | assumption)
                obtain ⟨ad224, A224_1, c224_1, A224_3, c224_3, e224, hx224_0, hx224_1, hx224_2, hx224_3, hl224_1, hi224_1, hl224_3, hi224_3⟩ := at_T36 HR0.out x4_1 p224 q224
                cases e224
                replace hx224_0 := (HB.out.cell (World.block_lt_of_cell? w _ hx224_0)).trans hx224_0
                replace hx224_1 := (HB.out.cell (World.block_lt_of_cell? w _ hx224_1)).trans hx224_1
                replace hx224_2 := (HB.out.cell (World.block_lt_of_cell? w _ hx224_2)).trans hx224_2
                replace hx224_3 := (HB.out.cell (World.block_lt_of_cell? w _ hx224_3)).trans hx224_3
                have HR224_1 := Aside0.mk hi224_1
                have HC224_1 := Aside0.mk hl224_1
                clear hi224_1 hl224_1
                have HR224_3 := Aside0.mk hi224_3
                have HC224_3 := Aside0.mk hl224_3
                clear hi224_3 hl224_3
                replace p224 := eq_true p224
                replace q224 := eq_true q224
                go_wp2
                go_roundg k1
                case measure => have := HK1.out; omega
                case rel => exact ⟨(x3_1 ++ (⟨#[10]⟩ : ByteArray)), (wrap64 (x4_1 + 1)), (by first | rfl | (simp; done) | (simp [*]; done)), (by first | rfl | (simp; done) | (simp [*]; done)), H', ⟨by have := HK1.out; omega⟩, ⟨by repeat (first | (with_reducible first | exact HB.out | apply below_alloc | apply pw_below_drewN | apply below_drew1) | exact HB.out)⟩⟩
              · rw [if_neg c7] at H
                exact absurd H (by simp)
            · rw [if_neg c6] at H
              have c6b0 : (((rd_T36 l0 x4_1).f0).toList == ([98, 114] : List UInt8)) = false := beq_eq_false_iff_ne.mpr c6
              have c6b1 : (((rd_T36 l0 x4_1).f0).toList != ([98, 114] : List UInt8)) = true := bne_iff_ne.mpr c6
              by_cases c8 : ((rd_T36 l0 x4_1).f0).toList = ([98, 108, 111, 99, 107, 113, 117, 111, 116, 101] : List UInt8)
              · rw [if_pos c8] at H
                have c8b0 : (((rd_T36 l0 x4_1).f0).toList == ([98, 108, 111, 99, 107, 113, 117, 111, 116, 101] : List UInt8)) = true := beq_iff_eq.mpr c8
                have c8b1 : (((rd_T36 l0 x4_1).f0).toList != ([98, 108, 111, 99, 107, 113, 117, 111, 116, 101] : List UInt8)) = false := bne_eq_false_iff_eq.mpr c8
                clear c8
                have HC9 := Aside0.mk H
                clear H
                have p224 : 0 ≤ (x4_1 : Int) := of_decide_eq_true (by first | (with_reducible assumption) | assumption)
                have q224 : x4_1 < (l0.length : Int) := of_decide_eq_true (by first | (with_reducible assumption) | assumption)
                obtain ⟨ad224, A224_1, c224_1, A224_3, c224_3, e224, hx224_0, hx224_1, hx224_2, hx224_3, hl224_1, hi224_1, hl224_3, hi224_3⟩ := at_T36 HR0.out x4_1 p224 q224
                cases e224
                replace hx224_0 := (HB.out.cell (World.block_lt_of_cell? w _ hx224_0)).trans hx224_0
                replace hx224_1 := (HB.out.cell (World.block_lt_of_cell? w _ hx224_1)).trans hx224_1
                replace hx224_2 := (HB.out.cell (World.block_lt_of_cell? w _ hx224_2)).trans hx224_2
                replace hx224_3 := (HB.out.cell (World.block_lt_of_cell? w _ hx224_3)).trans hx224_3
                have HR224_1 := Aside0.mk hi224_1
                have HC224_1 := Aside0.mk hl224_1
                clear hi224_1 hl224_1
                have HR224_3 := Aside0.mk hi224_3
                have HC224_3 := Aside0.mk hl224_3
                clear hi224_3 hl224_3
                replace p224 := eq_true p224
                replace q224 := eq_true q224
                go_upto_region 12 with (fail)
                go_cut [50] (fun v50 wc => ∃ (kq : Nat) (x50_8 : Bool), v50 = .bool x50_8 ∧ Aside0 (muslinref20_Text.j1 kq l0 x3_1 x4_1 x50_8 = some r) ∧ Aside0 (kq ≤ k1) ∧ Aside0 (Below w.heap.size w wc))
                case first =>
                  have H := HC9.out
                  clear HC9
                  by_cases c10 : x3_1.toList = ([] : List UInt8)
                  · rw [if_pos c10] at H
                    have c10b0 : (x3_1.toList == ([] : List UInt8)) = true := beq_iff_eq.mpr c10
                    have c10b1 : (x3_1.toList != ([] : List UInt8)) = false := bne_eq_false_iff_eq.mpr c10
                    clear c10
                    (first | rw [c10b0] | (simp only [i64_w, i32_w]; rw [c10b0]) | skip)
                    have H' := Aside0.mk H
                    clear H
                    go_wp2
                    go_meet
                    case rel => exact ⟨_, (false), (by first | rfl | (simp; done) | (simp [*]; done)), H', ⟨by have := HK1.out; first | omega | exact Nat.le_refl _⟩, ⟨by repeat (first | (with_reducible first | exact HB.out | apply below_alloc | apply pw_below_drewN | apply below_drew1) | exact HB.out)⟩⟩
                  · rw [if_neg c10] at H
                    have c10b0 : (x3_1.toList == ([] : List UInt8)) = false := beq_eq_false_iff_ne.mpr c10
                    have c10b1 : (x3_1.toList != ([] : List UInt8)) = true := bne_iff_ne.mpr c10
                    (first | rw [c10b0] | (simp only [i64_w, i32_w]; rw [c10b0]) | skip)
                    obtain ⟨ji11, hji11⟩ : ∃ j_ : Int, (wrap64 ((x3_1.size : Int) - 1)) = j_ := ⟨_, rfl⟩
                    replace H : (if 0 ≤ (ji11) then (if (ji11) < (x3_1.size : Int) then (muslinref20_Text.j1 k1 l0 x3_1 x4_1 ((bt x3_1 (ji11)) != 10)) else (none)) else (none)) = some r := by first | (rw [hji11] at H; exact H) | (simp only [hji11] at H ⊢; exact H)
                    have hji11w : (IntKind.i64.wrap ((x3_1.size : Int) - 1)) = ji11 := (i64_w _).trans hji11
                    by_cases c12 : 0 ≤ (ji11)
                    · rw [if_pos c12] at H
                      have c12b0 : decide (0 ≤ (ji11)) = true := decide_eq_true c12
                      clear c12
                      by_cases c13 : (ji11) < (x3_1.size : Int)
                      · rw [if_pos c13] at H
                        have c13b0 : decide ((ji11) < (x3_1.size : Int)) = true := decide_eq_true c13
                        clear c13
                        have H' := Aside0.mk H
                        clear H
                        have p14 : 0 ≤ ((ji11) : Int) := of_decide_eq_true (by first | (with_reducible assumption) | assumption)
                        have q14 : (ji11) < (x3_1.size : Int) := of_decide_eq_true (by first | (with_reducible assumption) | assumption)
                        have hx14 := bt_at x3_1 (ji11)
                        replace p14 := eq_true p14
                        replace q14 := eq_true q14
                        go_wp2
                        go_meet
                        case rel => exact ⟨_, (((bt x3_1 (ji11)) != 10)), (by first | rfl | (simp; done) | (simp only [← hji11] <;> (first | rfl | simp)) | (simp [*]; done)), H', ⟨by have := HK1.out; first | omega | exact Nat.le_refl _⟩, ⟨by repeat (first | (with_reducible first | exact HB.out | apply below_alloc | apply pw_below_drewN | apply below_drew1) | exact HB.out)⟩⟩
                      · rw [if_neg c13] at H
                        exact absurd H (by simp)
                    · rw [if_neg c12] at H
                      exact absurd H (by simp)
                case rest =>
                  clear HC9
                  try clear c1
                  try clear p1
                  try clear q1
                  try clear hx1
                  try clear c2
                  try clear c2b0
                  try clear p2
                  try clear q2
                  try clear hx2
                  try clear c3
                  try clear c3b0
                  try clear c4
                  try clear c4b0
                  try clear c4b1
                  try clear c5
                  try clear c5b0
                  try clear c5b1
                  try clear c5b2
                  try clear c6
                  try clear c6b0
                  try clear c6b1
                  try clear p6
                  try clear c7
                  try clear c7b0
                  try clear c7b1
                  try clear c7b2
                  try clear c8
                  try clear c8b0
                  try clear c8b1
                  try clear c10
                  try clear c10b0
                  try clear c10b1
                  try clear c12
                  try clear c12b0
                  try clear c13
                  try clear c13b0
                  try clear p14
                  try clear q14
                  try clear hx14
                  try clear hx224_0
                  try clear hx224_1
                  try clear hx224_2
                  try clear hx224_3
                  try clear hx225_0
                  try clear hx225_1
                  try clear hx225_2
                  try clear hx225_3
                  try clear p14
                  try clear p224
                  try clear p225
                  try clear q14
                  try clear q224
                  try clear q225
                  obtain ⟨kq, x50_8, rfl, HA, HJ8, HB⟩ := hcut
                  cases kq with
                  | zero => exact absurd HA.out (by simp [muslinref20_Text.j1])
                  | succ kj8 =>
                    have H := HA.out
                    clear HA
                    simp only [muslinref20_Text.j1] at H
                    have HC15 := Aside0.mk H
                    clear H
                    go_upto_if 50 with (fail)
                    go_cut [3] (fun v3 wc => ∃ (kq : Nat) (x3_14 : ByteArray), v3 = .string x3_14 ∧ Aside0 (muslinref20_Text.j2 kq l0 x3_14 x4_1 = some r) ∧ Aside0 (kq ≤ kj8) ∧ Aside0 (Below w.heap.size w wc))
                    case first =>
                      have H := HC15.out
                      clear HC15
                      by_cases c16 : x50_8 = true
                      · subst c16
                        have H1 : (if x3_1.size + 1 ≤ 9223372036854775807 then (muslinref20_Text.j2 kj8 l0 (x3_1 ++ (⟨#[10]⟩ : ByteArray)) x4_1) else (none)) = some r := by rw [if_pos rfl] at H; exact H
                        clear H
                        have H := H1
                        clear H1
                        by_cases c17 : x3_1.size + 1 ≤ 9223372036854775807
                        · rw [if_pos c17] at H
                          have c17b0 := eq_true c17
                          have c17b1 : decide (x3_1.size + 1 ≤ 9223372036854775807) = true := decide_eq_true c17
                          try have c17b2 : (9223372036854775807 < x3_1.size + 1) = False := eq_false (Nat.not_lt.2 c17)
                          have H' := Aside0.mk H
                          clear H
                          go_wp2
                          go_meet
                          case rel => exact ⟨_, (x3_1 ++ (⟨#[10]⟩ : ByteArray)), (by first | rfl | (simp; done) | (simp [*]; done)), H', ⟨by have := HK1.out; have := HJ8.out; first | omega | exact Nat.le_refl _⟩, ⟨by repeat (first | (with_reducible first | exact HB.out | apply below_alloc | apply pw_below_drewN | apply below_drew1) | exact HB.out)⟩⟩
                        · rw [if_neg c17] at H
                          exact absurd H (by simp)
                      · replace c16 := Bool.eq_false_iff.mpr c16
                        subst c16
                        have H1 : (muslinref20_Text.j2 kj8 l0 x3_1 x4_1) = some r := by rw [if_neg (show ¬ (false = true) by decide)] at H; exact H
                        clear H
                        have H := H1
                        clear H1
                        have H' := Aside0.mk H
                        clear H
                        go_wp2
                        go_meet
                        case rel => exact ⟨_, (x3_1), (by first | rfl | (simp; done) | (simp [*]; done)), H', ⟨by have := HK1.out; have := HJ8.out; first | omega | exact Nat.le_refl _⟩, ⟨by repeat (first | (with_reducible first | exact HB.out | apply below_alloc | apply pw_below_drewN | apply below_drew1) | exact HB.out)⟩⟩
                    case rest =>
                      clear HC15
                      try clear c1
                      try clear p1
                      try clear q1
                      try clear hx1
                      try clear c2
                      try clear c2b0
                      try clear p2
                      try clear q2
                      try clear hx2
                      try clear c3
                      try clear c3b0
                      try clear c4
                      try clear c4b0
                      try clear c4b1
                      try clear c5
                      try clear c5b0
                      try clear c5b1
                      try clear c5b2
                      try clear c6
                      try clear c6b0
                      try clear c6b1
                      try clear p6
                      try clear c7
                      try clear c7b0
                      try clear c7b1
                      try clear c7b2
                      try clear c8
                      try clear c8b0
                      try clear c8b1
                      try clear c10
                      try clear c10b0
                      try clear c10b1
                      try clear c12
                      try clear c12b0
                      try clear c13
                      try clear c13b0
                      try clear p14
                      try clear q14
                      try clear hx14
                      try clear c16
                      try clear c17
                      try clear c17b0
                      try clear c17b1
                      try clear c17b2
                      try clear hx224_0
                      try clear hx224_1
                      try clear hx224_2
                      try clear hx224_3
                      try clear hx225_0
                      try clear hx225_1
                      try clear hx225_2
                      try clear hx225_3
                      try clear p1
                      try clear p14
                      try clear p2
                      try clear p224
                      try clear p225
                      try clear p6
                      try clear q1
                      try clear q14
                      try clear q2
                      try clear q224
                      try clear q225
                      obtain ⟨kq, x3_14, rfl, HA, HJ14, HB⟩ := hcut
                      cases kq with
                      | zero => exact absurd HA.out (by simp [muslinref20_Text.j2])
                      | succ kj14 =>
                        have H := HA.out
                        clear HA
                        simp only [muslinref20_Text.j2] at H
                        by_cases c18 : 0 ≤ x4_1
                        · rw [if_pos c18] at H
                          have c18b0 : decide (0 ≤ x4_1) = true := decide_eq_true c18
                          clear c18
                          by_cases c19 : x4_1 < (l0.length : Int)
                          · rw [if_pos c19] at H
                            have c19b0 : decide (x4_1 < (l0.length : Int)) = true := decide_eq_true c19
                            clear c19
                            replace H := Option.bind_eq_some_iff.mp H
                            obtain ⟨t227, A200, H⟩ := H
                            replace H : ((muslinref06_Cut.f kj14 t227).bind fun t228 => (muslinref20_Text.l1 kj14 l0 x3_14 x4_1 t228 0)) = some r := H
                            have A20 := Aside0.mk A200
                            clear A200
                            replace H := Option.bind_eq_some_iff.mp H
                            obtain ⟨t228, A210, H⟩ := H
                            replace H : (muslinref20_Text.l1 kj14 l0 x3_14 x4_1 t228 0) = some r := H
                            have A21 := Aside0.mk A210
                            clear A210
                            have H' := Aside0.mk H
                            clear H
                            have p226 : 0 ≤ (x4_1 : Int) := of_decide_eq_true (by first | (with_reducible assumption) | assumption)
                            have q226 : x4_1 < (l0.length : Int) := of_decide_eq_true (by first | (with_reducible assumption) | assumption)
                            obtain ⟨ad226, A226_1, c226_1, A226_3, c226_3, e226, hx226_0, hx226_1, hx226_2, hx226_3, hl226_1, hi226_1, hl226_3, hi226_3⟩ := at_T36 HR0.out x4_1 p226 q226
                            obtain rfl : ad224 = ad226 := (by injection e226)
                            replace hx226_0 := (HB.out.cell (World.block_lt_of_cell? w _ hx226_0)).trans hx226_0
                            replace hx226_1 := (HB.out.cell (World.block_lt_of_cell? w _ hx226_1)).trans hx226_1
                            replace hx226_2 := (HB.out.cell (World.block_lt_of_cell? w _ hx226_2)).trans hx226_2
                            replace hx226_3 := (HB.out.cell (World.block_lt_of_cell? w _ hx226_3)).trans hx226_3
                            have HR226_1 := Aside0.mk hi226_1
                            have HC226_1 := Aside0.mk hl226_1
                            clear hi226_1 hl226_1
                            have HR226_3 := Aside0.mk hi226_3
                            have HC226_3 := Aside0.mk hl226_3
                            clear hi226_3 hl226_3
                            replace p226 := eq_true p226
                            replace q226 := eq_true q226
                            go_wp2_with (first | ((with_reducible refine gate_callee (f := 17) rfl ?_); refine goesL_ (some 58) rfl rfl Try.func17 (by kernel_rfl) rfl #[.slice A226_3 ((rd_T36 l0 x4_1).f3).length c226_3] rfl (by (try simp only [List.map_toArray, List.map_cons, List.map_nil]); first | done | rfl | (simp only [List.length_drop, List.length_take]; rfl)) ?_; (with_reducible refine (ih kj14 (by have := HK1.out; have := HJ8.out; have := HJ14.out; omega) _ _ ((rd_T36 l0 x4_1).f3) t227 _ ?side1 ?side2 A20.out).mono ?_); (case side1 => repeat (first | exact (Kd.C_below HR226_3.out HB.out) | (with_reducible refine Kd.C_alloc ?_ _) | (with_reducible refine Kd.C_drewN ?_ _) | (with_reducible refine Kd.C_drew ?_))); (case side2 => exact HC226_3.out); rintro e w22 ⟨rfl, hb⟩; refine ⟨_, rfl, ?_⟩; have n0_ := Aside0.mk (below_step (by repeat (first | (with_reducible first | exact HB.out | apply below_alloc | apply pw_below_drewN | apply below_drew1) | exact HB.out)) hb); clear HB; have HB := n0_; clear n0_; (try clear hb); (try clear hb2); (try clear hk); (try clear hi)) | ((with_reducible refine gate_callee (f := 18) rfl ?_); refine goesL_ (some 59) rfl rfl Try.func18 (by kernel_rfl) rfl #[.string t227] rfl (by (try simp only [List.map_toArray, List.map_cons, List.map_nil]); first | done | rfl | (simp only [List.length_drop, List.length_take]; rfl)) ?_; (with_reducible refine (muslinref06_Cut.calls kj14 t227 t228 _ A21.out).mono ?_); rintro e w23 ⟨v229, rfl, ho0, hb⟩; refine ⟨_, rfl, ?_⟩; have n0_ := Aside0.mk (Kd.R_lower ho0 (below_size (by repeat (first | (with_reducible first | exact HB.out | apply below_alloc | apply pw_below_drewN | apply below_drew1) | exact HB.out)))); have n1_ := Aside0.mk (below_step (by repeat (first | (with_reducible first | exact HB.out | apply below_alloc | apply pw_below_drewN | apply below_drew1) | exact HB.out)) hb); clear HB; have HO230 := n0_; have HB := n1_; clear n0_ n1_; (try clear hb); (try clear hb2); (try clear hk); (try clear hi); (try clear ho0)))
                            go_loopg [3, 6] kj14 (fun kq v3 v6 w' => ∃ (x3_4 : ByteArray) (x6_4 : Int), v3 = .string x3_4 ∧ v6 = .int .i64 x6_4 ∧ Aside0 (muslinref20_Text.l1 kq l0 x3_4 x4_1 t228 x6_4 = some r) ∧ Aside0 (kq ≤ kj14) ∧ Aside0 (Kd.R Kd.string 9 w' w.heap.size (fun _ => True) v229 t228) ∧ Aside0 (Below w.heap.size w w'))
                            case atStart => exact ⟨(x3_14), (0), (by first | rfl | (simp; done) | (simp [*]; done)), (by first | rfl | (simp; done) | (simp [*]; done)), H', ⟨Nat.le_refl _⟩, ⟨by (with_reducible repeat (first | apply Kd.R_alloc | apply Kd.R_drewN | apply Kd.R_drew)); exact HO230.out⟩, ⟨by repeat (first | (with_reducible first | exact HB.out | apply below_alloc | apply pw_below_drewN | apply below_drew1) | exact HB.out)⟩⟩
                            case round =>
                              clear H'
                              try clear c1
                              try clear p1
                              try clear q1
                              try clear hx1
                              try clear c2
                              try clear c2b0
                              try clear p2
                              try clear q2
                              try clear hx2
                              try clear c3
                              try clear c3b0
                              try clear c4
                              try clear c4b0
                              try clear c4b1
                              try clear c5
                              try clear c5b0
                              try clear c5b1
                              try clear c5b2
                              try clear c6
                              try clear c6b0
                              try clear c6b1
                              try clear p6
                              try clear c7
                              try clear c7b0
                              try clear c7b1
                              try clear c7b2
                              try clear c8
                              try clear c8b0
                              try clear c8b1
                              try clear c10
                              try clear c10b0
                              try clear c10b1
                              try clear c12
                              try clear c12b0
                              try clear c13
                              try clear c13b0
                              try clear p14
                              try clear q14
                              try clear hx14
                              try clear c16
                              try clear c17
                              try clear c17b0
                              try clear c17b1
                              try clear c17b2
                              try clear c18
                              try clear c18b0
                              try clear c19
                              try clear c19b0
                              try clear c22
                              try clear p22
                              try clear q22
                              try clear hx22
                              try clear hx224_0
                              try clear hx224_1
                              try clear hx224_2
                              try clear hx224_3
                              try clear hx225_0
                              try clear hx225_1
                              try clear hx225_2
                              try clear hx225_3
                              try clear hx226_0
                              try clear hx226_1
                              try clear hx226_2
                              try clear hx226_3
                              try clear p1
                              try clear p14
                              try clear p2
                              try clear p224
                              try clear p225
                              try clear p226
                              try clear p6
                              try clear q1
                              try clear q14
                              try clear q2
                              try clear q224
                              try clear q225
                              try clear q226
                              obtain ⟨x3_4, x6_4, rfl, rfl, HA, HK4, HO_5, HB⟩ := hrel
                              cases gk with
                              | zero => exact absurd HA.out (by simp [muslinref20_Text.l1])
                              | succ k4 =>
                                have H := HA.out
                                clear HA
                                simp only [muslinref20_Text.l1] at H
                                by_cases c24 : x6_4 < (t228.length : Int)
                                · rw [if_pos c24] at H
                                  have c24b0 : decide (x6_4 < (t228.length : Int)) = true := decide_eq_true c24
                                  clear c24
                                  by_cases c25 : x3_4.size + 2 ≤ 9223372036854775807
                                  · rw [if_pos c25] at H
                                    have c25b0 := eq_true c25
                                    have c25b1 : decide (x3_4.size + 2 ≤ 9223372036854775807) = true := decide_eq_true c25
                                    try have c25b2 : (9223372036854775807 < x3_4.size + 2) = False := eq_false (Nat.not_lt.2 c25)
                                    by_cases c26 : 0 ≤ x6_4
                                    · rw [if_pos c26] at H
                                      have c26b0 : decide (0 ≤ x6_4) = true := decide_eq_true c26
                                      clear c26
                                      by_cases c27 : (x3_4 ++ (⟨#[62, 32]⟩ : ByteArray)).size + (rdOf ByteArray.empty t228 x6_4).size ≤ 9223372036854775807
                                      · rw [if_pos c27] at H
                                        have c27b0 := eq_true c27
                                        have c27b1 : decide ((x3_4 ++ (⟨#[62, 32]⟩ : ByteArray)).size + (rdOf ByteArray.empty t228 x6_4).size ≤ 9223372036854775807) = true := decide_eq_true c27
                                        have c27n := c27
                                        simp only [ByteArray.size_append, sz_2] at c27n
                                        have c27nb := eq_true c27n
                                        have c27nc := eq_false (Nat.not_lt.2 c27n)
                                        try have c27b2 : (9223372036854775807 < (x3_4 ++ (⟨#[62, 32]⟩ : ByteArray)).size + (rdOf ByteArray.empty t228 x6_4).size) = False := eq_false (Nat.not_lt.2 c27)
                                        by_cases c28 : ((x3_4 ++ (⟨#[62, 32]⟩ : ByteArray)) ++ (rdOf ByteArray.empty t228 x6_4)).size + 1 ≤ 9223372036854775807
                                        · rw [if_pos c28] at H
                                          have c28b0 := eq_true c28
                                          have c28b1 : decide (((x3_4 ++ (⟨#[62, 32]⟩ : ByteArray)) ++ (rdOf ByteArray.empty t228 x6_4)).size + 1 ≤ 9223372036854775807) = true := decide_eq_true c28
                                          have c28n := c28
                                          simp only [ByteArray.size_append, sz_2] at c28n
                                          have c28nb := eq_true c28n
                                          have c28nc := eq_false (Nat.not_lt.2 c28n)
                                          try have c28b2 : (9223372036854775807 < ((x3_4 ++ (⟨#[62, 32]⟩ : ByteArray)) ++ (rdOf ByteArray.empty t228 x6_4)).size + 1) = False := eq_false (Nat.not_lt.2 c28)
                                          have H' := Aside0.mk H
                                          clear H
                                          obtain ⟨Ao29, co29, eo29⟩ := Kd.R_slice HO_5.out
                                          subst eo29
                                          have p231 : 0 ≤ (x6_4 : Int) := of_decide_eq_true (by first | (with_reducible assumption) | assumption)
                                          have q231 : x6_4 < (t228.length : Int) := of_decide_eq_true (by first | (with_reducible assumption) | assumption)
                                          obtain ⟨ad231, e231, hx231_0⟩ := Kd.at_string (Kd.R_reads' HO_5.out).2.2 x6_4 p231 q231
                                          cases e231
                                          replace p231 := eq_true p231
                                          replace q231 := eq_true q231
                                          go_wp2
                                          go_roundg k4
                                          case measure => have := HK1.out; have := HJ8.out; have := HJ14.out; have := HK4.out; omega
                                          case rel => exact ⟨(((x3_4 ++ (⟨#[62, 32]⟩ : ByteArray)) ++ (rdOf ByteArray.empty t228 x6_4)) ++ (⟨#[10]⟩ : ByteArray)), (wrap64 (x6_4 + 1)), (by first | rfl | (simp; done) | (simp [*]; done)), (by first | rfl | (simp; done) | (simp [*]; done)), H', ⟨by have := HK1.out; have := HJ8.out; have := HJ14.out; have := HK4.out; omega⟩, ⟨by (with_reducible repeat (first | apply Kd.R_alloc | apply Kd.R_drewN | apply Kd.R_drew)); exact HO_5.out⟩, ⟨by repeat (first | (with_reducible first | exact HB.out | apply below_alloc | apply pw_below_drewN | apply below_drew1) | exact HB.out)⟩⟩
                                        · rw [if_neg c28] at H
                                          exact absurd H (by simp)
                                      · rw [if_neg c27] at H
                                        exact absurd H (by simp)
                                    · rw [if_neg c26] at H
                                      exact absurd H (by simp)
                                  · rw [if_neg c25] at H
                                    exact absurd H (by simp)
                                · rw [if_neg c24] at H
                                  have c24b0 : decide (x6_4 < (t228.length : Int)) = false := decide_eq_false c24
                                  clear c24
                                  have H' := Aside0.mk H
                                  clear H
                                  obtain ⟨Ao30, co30, eo30⟩ := Kd.R_slice HO_5.out
                                  subst eo30
                                  go_wp2
                                  go_roundg k4
                                  case measure => have := HK1.out; have := HJ8.out; have := HJ14.out; have := HK4.out; omega
                                  case rel => exact ⟨(x3_4), (wrap64 (x4_1 + 1)), (by first | rfl | (simp; done) | (simp [*]; done)), (by first | rfl | (simp; done) | (simp [*]; done)), H', ⟨by have := HK1.out; have := HJ8.out; have := HJ14.out; have := HK4.out; omega⟩, ⟨by repeat (first | (with_reducible first | exact HB.out | apply below_alloc | apply pw_below_drewN | apply below_drew1) | exact HB.out)⟩⟩
                          · rw [if_neg c19] at H
                            exact absurd H (by simp)
                        · rw [if_neg c18] at H
                          exact absurd H (by simp)
              · rw [if_neg c8] at H
                have c8b0 : (((rd_T36 l0 x4_1).f0).toList == ([98, 108, 111, 99, 107, 113, 117, 111, 116, 101] : List UInt8)) = false := beq_eq_false_iff_ne.mpr c8
                have c8b1 : (((rd_T36 l0 x4_1).f0).toList != ([98, 108, 111, 99, 107, 113, 117, 111, 116, 101] : List UInt8)) = true := bne_iff_ne.mpr c8
                replace H := Option.bind_eq_some_iff.mp H
                obtain ⟨t233, A310, H⟩ := H
                replace H : (if x3_1.size + t233.size ≤ 9223372036854775807 then (muslinref20_Text.l0 k1 l0 (x3_1 ++ t233) (wrap64 (x4_1 + 1))) else (none)) = some r := H
                have A31 := Aside0.mk A310
                clear A310
                by_cases c32 : x3_1.size + t233.size ≤ 9223372036854775807
                · rw [if_pos c32] at H
                  have c32b0 := eq_true c32
                  have c32b1 : decide (x3_1.size + t233.size ≤ 9223372036854775807) = true := decide_eq_true c32
                  try have c32b2 : (9223372036854775807 < x3_1.size + t233.size) = False := eq_false (Nat.not_lt.2 c32)
                  have H' := Aside0.mk H
                  clear H
                  have p224 : 0 ≤ (x4_1 : Int) := of_decide_eq_true (by first | (with_reducible assumption) | assumption)
                  have q224 : x4_1 < (l0.length : Int) := of_decide_eq_true (by first | (with_reducible assumption) | assumption)
                  obtain ⟨ad224, A224_1, c224_1, A224_3, c224_3, e224, hx224_0, hx224_1, hx224_2, hx224_3, hl224_1, hi224_1, hl224_3, hi224_3⟩ := at_T36 HR0.out x4_1 p224 q224
                  cases e224
                  replace hx224_0 := (HB.out.cell (World.block_lt_of_cell? w _ hx224_0)).trans hx224_0
                  replace hx224_1 := (HB.out.cell (World.block_lt_of_cell? w _ hx224_1)).trans hx224_1
                  replace hx224_2 := (HB.out.cell (World.block_lt_of_cell? w _ hx224_2)).trans hx224_2
                  replace hx224_3 := (HB.out.cell (World.block_lt_of_cell? w _ hx224_3)).trans hx224_3
                  have HR224_1 := Aside0.mk hi224_1
                  have HC224_1 := Aside0.mk hl224_1
                  clear hi224_1 hl224_1
                  have HR224_3 := Aside0.mk hi224_3
                  have HC224_3 := Aside0.mk hl224_3
                  clear hi224_3 hl224_3
                  replace p224 := eq_true p224
                  replace q224 := eq_true q224
                  have p232 : 0 ≤ (x4_1 : Int) := of_decide_eq_true (by first | (with_reducible assumption) | assumption)
                  have q232 : x4_1 < (l0.length : Int) := of_decide_eq_true (by first | (with_reducible assumption) | assumption)
                  obtain ⟨ad232, A232_1, c232_1, A232_3, c232_3, e232, hx232_0, hx232_1, hx232_2, hx232_3, hl232_1, hi232_1, hl232_3, hi232_3⟩ := at_T36 HR0.out x4_1 p232 q232
                  obtain rfl : ad224 = ad232 := (by injection e232)
                  replace hx232_0 := (HB.out.cell (World.block_lt_of_cell? w _ hx232_0)).trans hx232_0
                  replace hx232_1 := (HB.out.cell (World.block_lt_of_cell? w _ hx232_1)).trans hx232_1
                  replace hx232_2 := (HB.out.cell (World.block_lt_of_cell? w _ hx232_2)).trans hx232_2
                  replace hx232_3 := (HB.out.cell (World.block_lt_of_cell? w _ hx232_3)).trans hx232_3
                  have HR232_1 := Aside0.mk hi232_1
                  have HC232_1 := Aside0.mk hl232_1
                  clear hi232_1 hl232_1
                  have HR232_3 := Aside0.mk hi232_3
                  have HC232_3 := Aside0.mk hl232_3
                  clear hi232_3 hl232_3
                  replace p232 := eq_true p232
                  replace q232 := eq_true q232
                  have ea_ := Option.some.inj (hx224_1.symm.trans hx232_1)
                  injection ea_ with ea_ en_ ec_
                  subst ea_
                  subst ec_
                  clear en_
                  have ea_ := Option.some.inj (hx224_3.symm.trans hx232_3)
                  injection ea_ with ea_ en_ ec_
                  subst ea_
                  subst ec_
                  clear en_
                  go_wp2_with (first | ((with_reducible refine gate_callee (f := 17) rfl ?_); refine goesL_ (some 24) rfl rfl Try.func17 (by kernel_rfl) rfl #[.slice A224_3 ((rd_T36 l0 x4_1).f3).length c224_3] rfl (by (try simp only [List.map_toArray, List.map_cons, List.map_nil]); first | done | rfl | (simp only [List.length_drop, List.length_take]; rfl)) ?_; (with_reducible refine (ih k1 (by have := HK1.out; omega) _ _ ((rd_T36 l0 x4_1).f3) t233 _ ?side1 ?side2 A31.out).mono ?_); (case side1 => repeat (first | exact (Kd.C_below HR232_3.out HB.out) | (with_reducible refine Kd.C_alloc ?_ _) | (with_reducible refine Kd.C_drewN ?_ _) | (with_reducible refine Kd.C_drew ?_))); (case side2 => exact HC232_3.out); rintro e w33 ⟨rfl, hb⟩; refine ⟨_, rfl, ?_⟩; have n0_ := Aside0.mk (below_step (by repeat (first | (with_reducible first | exact HB.out | apply below_alloc | apply pw_below_drewN | apply below_drew1) | exact HB.out)) hb); clear HB; have HB := n0_; clear n0_; (try clear hb); (try clear hb2); (try clear hk); (try clear hi)))
                  go_roundg k1
                  case measure => have := HK1.out; omega
                  case rel => exact ⟨(x3_1 ++ t233), (wrap64 (x4_1 + 1)), (by first | rfl | (simp; done) | (simp [*]; done)), (by first | rfl | (simp; done) | (simp [*]; done)), H', ⟨by have := HK1.out; omega⟩, ⟨by repeat (first | (with_reducible first | exact HB.out | apply below_alloc | apply pw_below_drewN | apply below_drew1) | exact HB.out)⟩⟩
                · rw [if_neg c32] at H
                  exact absurd H (by simp)
        · rw [if_neg c3] at H
          exact absurd H (by simp)
      · rw [if_neg c2] at H
        have c2b0 : decide (x4_1 < (l0.length : Int)) = false := decide_eq_false c2
        clear c2
        obtain rfl := Option.some.inj H
        go_wp2
        go_ret
        exact ⟨by first | rfl | (simp [errW_none, errW_some] <;> rfl) | (simp [*, errW_none, errW_some] <;> rfl), by repeat (first | (with_reducible first | exact HB.out | apply below_alloc | apply pw_below_drewN | apply below_drew1) | exact HB.out)⟩

/-! ### muslinlaw20_PlainTexts: function 4 -/
def muslinlaw20_PlainTexts.f (k : Nat) (l0 : List (S36)) : Option (Bool) := (muslinref14_Small.f k l0).bind fun t234 => (if t234 = true then ((plain_Text.f k l0).bind fun t235 => ((muslinref20_Text.f k l0).bind fun t236 => (if t235.toList = t236.toList then ((muslinlaw20_live.f k).bind fun t237 => (some t237)) else (some false)))) else ((muslinlaw20_live.f k).bind fun t238 => (some t238)))
theorem muslinlaw20_PlainTexts.mono : ∀ a0 k, LeO (muslinlaw20_PlainTexts.f k a0) (muslinlaw20_PlainTexts.f (k + 1) a0) := by
  intro a0 k
  unfold muslinlaw20_PlainTexts.f
  repeat' first
      | (with_reducible exact muslinlaw20_live.mono _)
      | (with_reducible exact muslinref14_Small.mono _ _)
      | (with_reducible exact muslinref20_Text.mono _ _)
      | (with_reducible exact plain_Text.mono _ _)
      | (with_reducible exact LeO.refl _)
      | (with_reducible exact LeO.none _)
      | (with_reducible refine LeO.ite ?_ ?_)
      | (with_reducible refine LeO.bind ?_ (fun _ => ?_))
      | exact muslinlaw20_live.mono _
      | exact muslinref14_Small.mono _ _
      | exact muslinref20_Text.mono _ _
      | exact plain_Text.mono _ _
      | exact LeO.none _
      | refine LeO.ite ?_ ?_
      | refine LeO.bind ?_ (fun _ => ?_)
set_option maxHeartbeats 8000000 in
set_option maxRecDepth 100000 in
theorem muslinlaw20_PlainTexts.calls (k : Nat) (A0 : Option Addr) (c0 : Nat) (l0 : List (S36)) (r : Bool) (w : World) (hr0 : Kd.C k36 w A0 l0.length l0) (hc0 : l0.length ≤ c0) (h : muslinlaw20_PlainTexts.f k l0 = some r) :
    Calls Try.prog 4 #[.slice A0 l0.length c0] w fun e w' => e = .returned (.bool r) ∧ Below w.heap.size w w' := by
  have HR0 := Aside0.mk hr0
  have HC0 := Aside0.mk hc0
  clear hr0 hc0
  have HB := Aside0.mk (Below.refl w.heap.size w)
  have H : ((muslinref14_Small.f k l0).bind fun t234 => (if t234 = true then ((plain_Text.f k l0).bind fun t235 => ((muslinref20_Text.f k l0).bind fun t236 => (if t235.toList = t236.toList then ((muslinlaw20_live.f k).bind fun t237 => (some t237)) else (some false)))) else ((muslinlaw20_live.f k).bind fun t238 => (some t238)))) = some r := h
  clear h
  replace H := Option.bind_eq_some_iff.mp H
  obtain ⟨t234, A20, H⟩ := H
  replace H : (if t234 = true then ((plain_Text.f k l0).bind fun t235 => ((muslinref20_Text.f k l0).bind fun t236 => (if t235.toList = t236.toList then ((muslinlaw20_live.f k).bind fun t237 => (some t237)) else (some false)))) else ((muslinlaw20_live.f k).bind fun t238 => (some t238))) = some r := H
  have A2 := Aside0.mk A20
  clear A20
  by_cases c3 : t234 = true
  · subst c3
    have H1 : ((plain_Text.f k l0).bind fun t235 => ((muslinref20_Text.f k l0).bind fun t236 => (if t235.toList = t236.toList then ((muslinlaw20_live.f k).bind fun t237 => (some t237)) else (some false)))) = some r := by rw [if_pos rfl] at H; exact H
    clear H
    have H := H1
    clear H1
    replace H := Option.bind_eq_some_iff.mp H
    obtain ⟨t235, A40, H⟩ := H
    replace H : ((muslinref20_Text.f k l0).bind fun t236 => (if t235.toList = t236.toList then ((muslinlaw20_live.f k).bind fun t237 => (some t237)) else (some false))) = some r := H
    have A4 := Aside0.mk A40
    clear A40
    replace H := Option.bind_eq_some_iff.mp H
    obtain ⟨t236, A50, H⟩ := H
    replace H : (if t235.toList = t236.toList then ((muslinlaw20_live.f k).bind fun t237 => (some t237)) else (some false)) = some r := H
    have A5 := Aside0.mk A50
    clear A50
    by_cases c6 : t235.toList = t236.toList
    · rw [if_pos c6] at H
      have c6b0 : (t235.toList == t236.toList) = true := beq_iff_eq.mpr c6
      have c6b1 : (t235.toList != t236.toList) = false := bne_eq_false_iff_eq.mpr c6
      clear c6
      replace H := Option.bind_eq_some_iff.mp H
      obtain ⟨t237, A70, H⟩ := H
      replace H : (some t237) = some r := H
      have A7 := Aside0.mk A70
      clear A70
      obtain rfl := Option.some.inj H
      go_enter Try.func4, Try.ntmps4
      go_wp2_with (first | ((with_reducible refine gate_callee (f := 15) rfl ?_); refine goesL_ (some 4) rfl rfl Try.func15 (by kernel_rfl) rfl #[.slice A0 l0.length c0] rfl (by (try simp only [List.map_toArray, List.map_cons, List.map_nil]); first | done | rfl | (simp only [List.length_drop, List.length_take]; rfl)) ?_; (with_reducible refine (muslinref14_Small.calls k _ _ l0 true _ ?side1 ?side2 A2.out).mono ?_); (case side1 => repeat (first | exact HR0.out | (with_reducible refine Kd.C_alloc ?_ _) | (with_reducible refine Kd.C_drewN ?_ _) | (with_reducible refine Kd.C_drew ?_))); (case side2 => exact HC0.out); rintro e w' ⟨rfl, ⟨nd, rfl⟩⟩; refine ⟨_, rfl, ?_⟩) | ((with_reducible refine gate_callee (f := 16) rfl ?_); refine goesL_ (some 8) rfl rfl Try.func16 (by kernel_rfl) rfl #[.slice A0 l0.length c0] rfl (by (try simp only [List.map_toArray, List.map_cons, List.map_nil]); first | done | rfl | (simp only [List.length_drop, List.length_take]; rfl)) ?_; (with_reducible refine (plain_Text.calls k _ _ l0 t235 _ ?side1 ?side2 A4.out).mono ?_); (case side1 => repeat (first | exact HR0.out | (with_reducible refine Kd.C_alloc ?_ _) | (with_reducible refine Kd.C_drewN ?_ _) | (with_reducible refine Kd.C_drew ?_))); (case side2 => exact HC0.out); rintro e w8 ⟨rfl, hb⟩; refine ⟨_, rfl, ?_⟩; have n0_ := Aside0.mk (below_step (by repeat (first | (with_reducible first | exact HB.out | apply below_alloc | apply pw_below_drewN | apply below_drew1) | exact HB.out)) hb); clear HB; have HB := n0_; clear n0_; (try clear hb); (try clear hb2); (try clear hk); (try clear hi)) | ((with_reducible refine gate_callee (f := 17) rfl ?_); refine goesL_ (some 10) rfl rfl Try.func17 (by kernel_rfl) rfl #[.slice A0 l0.length c0] rfl (by (try simp only [List.map_toArray, List.map_cons, List.map_nil]); first | done | rfl | (simp only [List.length_drop, List.length_take]; rfl)) ?_; (with_reducible refine (muslinref20_Text.calls k _ _ l0 t236 _ ?side1 ?side2 A5.out).mono ?_); (case side1 => repeat (first | exact (Kd.C_below HR0.out HB.out) | (with_reducible refine Kd.C_alloc ?_ _) | (with_reducible refine Kd.C_drewN ?_ _) | (with_reducible refine Kd.C_drew ?_))); (case side2 => exact HC0.out); rintro e w9 ⟨rfl, hb⟩; refine ⟨_, rfl, ?_⟩; have n0_ := Aside0.mk (below_step (by repeat (first | (with_reducible first | exact HB.out | apply below_alloc | apply pw_below_drewN | apply below_drew1) | exact HB.out)) hb); clear HB; have HB := n0_; clear n0_; (try clear hb); (try clear hb2); (try clear hk); (try clear hi)) | (go_at_call 9; (with_reducible refine (muslinlaw20_live.calls k  t237 _ A7.out).mono ?_); rintro e w10 ⟨rfl, hb⟩; have n0_ := Aside0.mk (below_step (by repeat (first | (with_reducible first | exact HB.out | apply below_alloc | apply pw_below_drewN | apply below_drew1) | exact HB.out)) hb); clear HB; have HB := n0_; clear n0_; (try clear hb); (try clear hb2); (try clear hk); (try clear hi)))
      go_ret
      exact ⟨by first | rfl | (simp [errW_none, errW_some] <;> rfl) | (simp [*, errW_none, errW_some] <;> rfl), by repeat (first | (with_reducible first | exact HB.out | apply below_alloc | apply pw_below_drewN | apply below_drew1) | exact HB.out)⟩
    · rw [if_neg c6] at H
      have c6b0 : (t235.toList == t236.toList) = false := beq_eq_false_iff_ne.mpr c6
      have c6b1 : (t235.toList != t236.toList) = true := bne_iff_ne.mpr c6
      obtain rfl := Option.some.inj H
      go_enter Try.func4, Try.ntmps4
      go_wp2_with (first | ((with_reducible refine gate_callee (f := 15) rfl ?_); refine goesL_ (some 4) rfl rfl Try.func15 (by kernel_rfl) rfl #[.slice A0 l0.length c0] rfl (by (try simp only [List.map_toArray, List.map_cons, List.map_nil]); first | done | rfl | (simp only [List.length_drop, List.length_take]; rfl)) ?_; (with_reducible refine (muslinref14_Small.calls k _ _ l0 true _ ?side1 ?side2 A2.out).mono ?_); (case side1 => repeat (first | exact HR0.out | (with_reducible refine Kd.C_alloc ?_ _) | (with_reducible refine Kd.C_drewN ?_ _) | (with_reducible refine Kd.C_drew ?_))); (case side2 => exact HC0.out); rintro e w' ⟨rfl, ⟨nd, rfl⟩⟩; refine ⟨_, rfl, ?_⟩) | ((with_reducible refine gate_callee (f := 16) rfl ?_); refine goesL_ (some 8) rfl rfl Try.func16 (by kernel_rfl) rfl #[.slice A0 l0.length c0] rfl (by (try simp only [List.map_toArray, List.map_cons, List.map_nil]); first | done | rfl | (simp only [List.length_drop, List.length_take]; rfl)) ?_; (with_reducible refine (plain_Text.calls k _ _ l0 t235 _ ?side1 ?side2 A4.out).mono ?_); (case side1 => repeat (first | exact HR0.out | (with_reducible refine Kd.C_alloc ?_ _) | (with_reducible refine Kd.C_drewN ?_ _) | (with_reducible refine Kd.C_drew ?_))); (case side2 => exact HC0.out); rintro e w11 ⟨rfl, hb⟩; refine ⟨_, rfl, ?_⟩; have n0_ := Aside0.mk (below_step (by repeat (first | (with_reducible first | exact HB.out | apply below_alloc | apply pw_below_drewN | apply below_drew1) | exact HB.out)) hb); clear HB; have HB := n0_; clear n0_; (try clear hb); (try clear hb2); (try clear hk); (try clear hi)) | ((with_reducible refine gate_callee (f := 17) rfl ?_); refine goesL_ (some 10) rfl rfl Try.func17 (by kernel_rfl) rfl #[.slice A0 l0.length c0] rfl (by (try simp only [List.map_toArray, List.map_cons, List.map_nil]); first | done | rfl | (simp only [List.length_drop, List.length_take]; rfl)) ?_; (with_reducible refine (muslinref20_Text.calls k _ _ l0 t236 _ ?side1 ?side2 A5.out).mono ?_); (case side1 => repeat (first | exact (Kd.C_below HR0.out HB.out) | (with_reducible refine Kd.C_alloc ?_ _) | (with_reducible refine Kd.C_drewN ?_ _) | (with_reducible refine Kd.C_drew ?_))); (case side2 => exact HC0.out); rintro e w12 ⟨rfl, hb⟩; refine ⟨_, rfl, ?_⟩; have n0_ := Aside0.mk (below_step (by repeat (first | (with_reducible first | exact HB.out | apply below_alloc | apply pw_below_drewN | apply below_drew1) | exact HB.out)) hb); clear HB; have HB := n0_; clear n0_; (try clear hb); (try clear hb2); (try clear hk); (try clear hi)))
      go_ret
      exact ⟨by first | rfl | (simp [errW_none, errW_some] <;> rfl) | (simp [*, errW_none, errW_some] <;> rfl), by repeat (first | (with_reducible first | exact HB.out | apply below_alloc | apply pw_below_drewN | apply below_drew1) | exact HB.out)⟩
  · replace c3 := Bool.eq_false_iff.mpr c3
    subst c3
    have H1 : ((muslinlaw20_live.f k).bind fun t238 => (some t238)) = some r := by rw [if_neg (show ¬ (false = true) by decide)] at H; exact H
    clear H
    have H := H1
    clear H1
    replace H := Option.bind_eq_some_iff.mp H
    obtain ⟨t238, A130, H⟩ := H
    replace H : (some t238) = some r := H
    have A13 := Aside0.mk A130
    clear A130
    obtain rfl := Option.some.inj H
    go_enter Try.func4, Try.ntmps4
    go_wp2_with (first | ((with_reducible refine gate_callee (f := 15) rfl ?_); refine goesL_ (some 4) rfl rfl Try.func15 (by kernel_rfl) rfl #[.slice A0 l0.length c0] rfl (by (try simp only [List.map_toArray, List.map_cons, List.map_nil]); first | done | rfl | (simp only [List.length_drop, List.length_take]; rfl)) ?_; (with_reducible refine (muslinref14_Small.calls k _ _ l0 false _ ?side1 ?side2 A2.out).mono ?_); (case side1 => repeat (first | exact HR0.out | (with_reducible refine Kd.C_alloc ?_ _) | (with_reducible refine Kd.C_drewN ?_ _) | (with_reducible refine Kd.C_drew ?_))); (case side2 => exact HC0.out); rintro e w' ⟨rfl, ⟨nd, rfl⟩⟩; refine ⟨_, rfl, ?_⟩) | ((with_reducible refine gate_callee (f := 9) rfl ?_); refine goesL_ (some 6) rfl rfl Try.func9 (by kernel_rfl) rfl #[] rfl (by (try simp only [List.map_toArray, List.map_cons, List.map_nil]); first | done | rfl | (simp only [List.length_drop, List.length_take]; rfl)) ?_; (with_reducible refine (muslinlaw20_live.calls k  t238 _ A13.out).mono ?_); rintro e w14 ⟨rfl, hb⟩; refine ⟨_, rfl, ?_⟩; have n0_ := Aside0.mk (below_step (by repeat (first | (with_reducible first | exact HB.out | apply below_alloc | apply pw_below_drewN | apply below_drew1) | exact HB.out)) hb); clear HB; have HB := n0_; clear n0_; (try clear hb); (try clear hb2); (try clear hk); (try clear hi)))
    go_ret
    exact ⟨by first | rfl | (simp [errW_none, errW_some] <;> rfl) | (simp [*, errW_none, errW_some] <;> rfl), by repeat (first | (with_reducible first | exact HB.out | apply below_alloc | apply pw_below_drewN | apply below_drew1) | exact HB.out)⟩

end Go.Proofs.Ythnbhcmekkadeaa.Pr
