/- Written by a program of this session (printx.py), with functions proved by hand counted as printed; Lean checks it. -/
import Derived.Test.YthnbhcmekkadeaaPrx0
import Derived.Test.YthnbhcmekkadeaaPrx2
import Derived.Test.YthnbhcmekkadeaaPrx5
namespace Go.Proofs.Ythnbhcmekkadeaa.Pr
open Go.RowKit Go.Proofs.YthnbhcmekkadeaaW.PrintWords Go.Proofs.YthnbhcmekkadeaaW.PrintLast Go.Proofs.YthnbhcmekkadeaaW.PrintMore
attribute [local go_sem] max2_int min2_int max_two min_two max_three min_three max_four min_four   -- for this text's walks alone
set_option linter.unusedVariables false
set_option linter.unusedSimpArgs false

/-! ### muslinlaw20_PlainLevels: function 6 -/
mutual
def muslinlaw20_PlainLevels.j0 : Nat → ByteArray → Bool → Int → ByteArray → ByteArray → Option (Bool)
  | 0, _, _, _, _, _ => none
  | k + 1, x0, x1, x5, x6, x7 => if x7.size + x0.size ≤ 9223372036854775807 then ((plain_Level.f k (x7 ++ x0)).bind fun bt256 => (if x0.toList = ([] : List UInt8) then (if x5 = 0 then (muslinlaw20_PlainLevels.j1 k x0 x1 x5 x6 bt256.1 bt256.2 (x6.toList != x0.toList)) else (muslinlaw20_PlainLevels.j1 k x0 x1 x5 x6 bt256.1 bt256.2 true)) else (if 0 < (x0.size : Int) then (if (bt x0 0) = 62 then (muslinlaw20_PlainLevels.j1 k x0 x1 x5 x6 bt256.1 bt256.2 false) else (if x5 = 0 then (muslinlaw20_PlainLevels.j1 k x0 x1 x5 x6 bt256.1 bt256.2 (x6.toList != x0.toList)) else (muslinlaw20_PlainLevels.j1 k x0 x1 x5 x6 bt256.1 bt256.2 true))) else (none)))) else (none)
def muslinlaw20_PlainLevels.j1 : Nat → ByteArray → Bool → Int → ByteArray → Int → ByteArray → Bool → Option (Bool)
  | 0, _, _, _, _, _, _, _ => none
  | k + 1, x0, x1, x5, x6, x8, x9, x42 => if x42 = true then (some false) else (if x1 = true then (muslinlaw20_PlainLevels.j2 k x0 x5 x6 x8 x9 false) else (if x0.toList = ([] : List UInt8) then (muslinlaw20_PlainLevels.j2 k x0 x5 x6 x8 x9 false) else (if 0 < (x0.size : Int) then (muslinlaw20_PlainLevels.j2 k x0 x5 x6 x8 x9 ((bt x0 0) == 32)) else (none))))
def muslinlaw20_PlainLevels.j2 : Nat → ByteArray → Int → ByteArray → Int → ByteArray → Bool → Option (Bool)
  | 0, _, _, _, _, _, _ => none
  | k + 1, x0, x5, x6, x8, x9, x53 => if x53 = true then (if 1 ≤ (x0.size : Int) then ((plain_Level.f k (x0.extract 1 x0.size)).bind fun bt258 => (muslinlaw20_PlainLevels.j3 k bt258.1 bt258.2 x8 x9)) else (none)) else (muslinlaw20_PlainLevels.j3 k x5 x6 x8 x9)
def muslinlaw20_PlainLevels.j3 : Nat → Int → ByteArray → Int → ByteArray → Option (Bool)
  | 0, _, _, _, _ => none
  | k + 1, x5, x6, x8, x9 => if x5 = 20 then (if x8 = 20 then ((muslinlaw20_live.f k).bind fun t260 => (some t260)) else (some false)) else (if x8 = (wrap64 (x5 + 1)) then (if x9.toList = x6.toList then ((muslinlaw20_live.f k).bind fun t261 => (some t261)) else (some false)) else (some false))
end
def muslinlaw20_PlainLevels.f (k : Nat) (a0 : ByteArray) (a1 : Bool) : Option (Bool) := if (a0.size : Int) > 3000 then ((muslinlaw20_live.f k).bind fun t253 => (some t253)) else ((plain_Level.f k a0).bind fun bt254 => (if a1 = true then (muslinlaw20_PlainLevels.j0 k a0 a1 bt254.1 bt254.2 (⟨#[62, 32]⟩ : ByteArray)) else (muslinlaw20_PlainLevels.j0 k a0 a1 bt254.1 bt254.2 (⟨#[62]⟩ : ByteArray))))
theorem muslinlaw20_PlainLevels.mono_l : ∀ k, (∀ y0 y1 y2 y3 y4, LeO (muslinlaw20_PlainLevels.j0 k y0 y1 y2 y3 y4) (muslinlaw20_PlainLevels.j0 (k + 1) y0 y1 y2 y3 y4)) ∧ (∀ y0 y1 y2 y3 y4 y5 y6, LeO (muslinlaw20_PlainLevels.j1 k y0 y1 y2 y3 y4 y5 y6) (muslinlaw20_PlainLevels.j1 (k + 1) y0 y1 y2 y3 y4 y5 y6)) ∧ (∀ y0 y1 y2 y3 y4 y5, LeO (muslinlaw20_PlainLevels.j2 k y0 y1 y2 y3 y4 y5) (muslinlaw20_PlainLevels.j2 (k + 1) y0 y1 y2 y3 y4 y5)) ∧ (∀ y0 y1 y2 y3, LeO (muslinlaw20_PlainLevels.j3 k y0 y1 y2 y3) (muslinlaw20_PlainLevels.j3 (k + 1) y0 y1 y2 y3))
  | 0 => ⟨fun _ _ _ _ _ r h => by simp [muslinlaw20_PlainLevels.j0] at h, fun _ _ _ _ _ _ _ r h => by simp [muslinlaw20_PlainLevels.j1] at h, fun _ _ _ _ _ _ r h => by simp [muslinlaw20_PlainLevels.j2] at h, fun _ _ _ _ r h => by simp [muslinlaw20_PlainLevels.j3] at h⟩
  | k + 1 => by
    obtain ⟨ih0, ih1, ih2, ih3⟩ := muslinlaw20_PlainLevels.mono_l k
    refine ⟨?_, ?_, ?_, ?_⟩
    · intro y0 y1 y2 y3 y4
      unfold muslinlaw20_PlainLevels.j0
      repeat' first
      | (with_reducible exact ih0 _ _ _ _ _)
      | (with_reducible exact ih1 _ _ _ _ _ _ _)
      | (with_reducible exact ih2 _ _ _ _ _ _)
      | (with_reducible exact ih3 _ _ _ _)
      | (with_reducible exact muslinlaw20_live.mono _)
      | (with_reducible exact plain_Level.mono _ _)
      | (with_reducible exact LeO.refl _)
      | (with_reducible exact LeO.none _)
      | (with_reducible refine LeO.ite ?_ ?_)
      | (with_reducible refine LeO.bind ?_ (fun _ => ?_))
      | exact ih0 _ _ _ _ _
      | exact ih1 _ _ _ _ _ _ _
      | exact ih2 _ _ _ _ _ _
      | exact ih3 _ _ _ _
      | exact muslinlaw20_live.mono _
      | exact plain_Level.mono _ _
      | exact LeO.none _
      | refine LeO.ite ?_ ?_
      | refine LeO.bind ?_ (fun _ => ?_)
    · intro y0 y1 y2 y3 y4 y5 y6
      unfold muslinlaw20_PlainLevels.j1
      repeat' first
      | (with_reducible exact ih0 _ _ _ _ _)
      | (with_reducible exact ih1 _ _ _ _ _ _ _)
      | (with_reducible exact ih2 _ _ _ _ _ _)
      | (with_reducible exact ih3 _ _ _ _)
      | (with_reducible exact muslinlaw20_live.mono _)
      | (with_reducible exact plain_Level.mono _ _)
      | (with_reducible exact LeO.refl _)
      | (with_reducible exact LeO.none _)
      | (with_reducible refine LeO.ite ?_ ?_)
      | (with_reducible refine LeO.bind ?_ (fun _ => ?_))
      | exact ih0 _ _ _ _ _
      | exact ih1 _ _ _ _ _ _ _
      | exact ih2 _ _ _ _ _ _
      | exact ih3 _ _ _ _
      | exact muslinlaw20_live.mono _
      | exact plain_Level.mono _ _
      | exact LeO.none _
      | refine LeO.ite ?_ ?_
      | refine LeO.bind ?_ (fun _ => ?_)
    · intro y0 y1 y2 y3 y4 y5
      unfold muslinlaw20_PlainLevels.j2
      repeat' first
      | (with_reducible exact ih0 _ _ _ _ _)
      | (with_reducible exact ih1 _ _ _ _ _ _ _)
      | (with_reducible exact ih2 _ _ _ _ _ _)
      | (with_reducible exact ih3 _ _ _ _)
      | (with_reducible exact muslinlaw20_live.mono _)
      | (with_reducible exact plain_Level.mono _ _)
      | (with_reducible exact LeO.refl _)
      | (with_reducible exact LeO.none _)
      | (with_reducible refine LeO.ite ?_ ?_)
      | (with_reducible refine LeO.bind ?_ (fun _ => ?_))
      | exact ih0 _ _ _ _ _
      | exact ih1 _ _ _ _ _ _ _
      | exact ih2 _ _ _ _ _ _
      | exact ih3 _ _ _ _
      | exact muslinlaw20_live.mono _
      | exact plain_Level.mono _ _
      | exact LeO.none _
      | refine LeO.ite ?_ ?_
      | refine LeO.bind ?_ (fun _ => ?_)
    · intro y0 y1 y2 y3
      unfold muslinlaw20_PlainLevels.j3
      repeat' first
      | (with_reducible exact ih0 _ _ _ _ _)
      | (with_reducible exact ih1 _ _ _ _ _ _ _)
      | (with_reducible exact ih2 _ _ _ _ _ _)
      | (with_reducible exact ih3 _ _ _ _)
      | (with_reducible exact muslinlaw20_live.mono _)
      | (with_reducible exact plain_Level.mono _ _)
      | (with_reducible exact LeO.refl _)
      | (with_reducible exact LeO.none _)
      | (with_reducible refine LeO.ite ?_ ?_)
      | (with_reducible refine LeO.bind ?_ (fun _ => ?_))
      | exact ih0 _ _ _ _ _
      | exact ih1 _ _ _ _ _ _ _
      | exact ih2 _ _ _ _ _ _
      | exact ih3 _ _ _ _
      | exact muslinlaw20_live.mono _
      | exact plain_Level.mono _ _
      | exact LeO.none _
      | refine LeO.ite ?_ ?_
      | refine LeO.bind ?_ (fun _ => ?_)
theorem muslinlaw20_PlainLevels.mono : ∀ a0 a1 k, LeO (muslinlaw20_PlainLevels.f k a0 a1) (muslinlaw20_PlainLevels.f (k + 1) a0 a1) := by
  intro a0 a1 k
  obtain ⟨ih0, ih1, ih2, ih3⟩ := muslinlaw20_PlainLevels.mono_l k
  unfold muslinlaw20_PlainLevels.f
  repeat' first
      | (with_reducible exact ih0 _ _ _ _ _)
      | (with_reducible exact ih1 _ _ _ _ _ _ _)
      | (with_reducible exact ih2 _ _ _ _ _ _)
      | (with_reducible exact ih3 _ _ _ _)
      | (with_reducible exact muslinlaw20_live.mono _)
      | (with_reducible exact plain_Level.mono _ _)
      | (with_reducible exact LeO.refl _)
      | (with_reducible exact LeO.none _)
      | (with_reducible refine LeO.ite ?_ ?_)
      | (with_reducible refine LeO.bind ?_ (fun _ => ?_))
      | exact ih0 _ _ _ _ _
      | exact ih1 _ _ _ _ _ _ _
      | exact ih2 _ _ _ _ _ _
      | exact ih3 _ _ _ _
      | exact muslinlaw20_live.mono _
      | exact plain_Level.mono _ _
      | exact LeO.none _
      | refine LeO.ite ?_ ?_
      | refine LeO.bind ?_ (fun _ => ?_)
set_option maxHeartbeats 8000000 in
set_option maxRecDepth 100000 in
theorem muslinlaw20_PlainLevels.calls (k : Nat) (a0 : ByteArray) (a1 : Bool) (r : Bool) (w : World) (h : muslinlaw20_PlainLevels.f k a0 a1 = some r) :
    Calls Try.prog 6 #[.string a0, .bool a1] w fun e w' => e = .returned (.bool r) ∧ Below w.heap.size w w' := by
  have HB := Aside0.mk (Below.refl w.heap.size w)
  have H : (if (a0.size : Int) > 3000 then ((muslinlaw20_live.f k).bind fun t253 => (some t253)) else ((plain_Level.f k a0).bind fun bt254 => (if a1 = true then (muslinlaw20_PlainLevels.j0 k a0 a1 bt254.1 bt254.2 (⟨#[62, 32]⟩ : ByteArray)) else (muslinlaw20_PlainLevels.j0 k a0 a1 bt254.1 bt254.2 (⟨#[62]⟩ : ByteArray))))) = some r := h
  clear h
  by_cases c3 : (a0.size : Int) > 3000
  · rw [if_pos c3] at H
    have c3b0 : decide (3000 < (a0.size : Int)) = true := decide_eq_true c3
    have c3b1 : decide (3000 < a0.size) = true := decide_eq_true (by omega)
    clear c3
    replace H := Option.bind_eq_some_iff.mp H
    obtain ⟨t253, A40, H⟩ := H
    replace H : (some t253) = some r := H
    have A4 := Aside0.mk A40
    clear A40
    obtain rfl := Option.some.inj H
    go_enter Try.func6, Try.ntmps6
    go_wp2_with (first | ((with_reducible refine gate_callee (f := 9) rfl ?_); refine goesL_ (some 13) rfl rfl Try.func9 (by kernel_rfl) rfl #[] rfl (by (try simp only [List.map_toArray, List.map_cons, List.map_nil]); first | done | rfl | (simp only [List.length_drop, List.length_take]; rfl)) ?_; (with_reducible refine (muslinlaw20_live.calls k  t253 _ A4.out).mono ?_); rintro e w5 ⟨rfl, hb⟩; refine ⟨_, rfl, ?_⟩; have n0_ := Aside0.mk (below_step (by repeat (first | (with_reducible first | exact HB.out | apply below_alloc | apply pw_below_drewN | apply below_drew1) | exact HB.out)) hb); clear HB; have HB := n0_; clear n0_; (try clear hb); (try clear hb2); (try clear hk); (try clear hi)))
    go_ret
    exact ⟨by first | rfl | (simp [errW_none, errW_some] <;> rfl) | (simp [*, errW_none, errW_some] <;> rfl), by repeat (first | (with_reducible first | exact HB.out | apply below_alloc | apply pw_below_drewN | apply below_drew1) | exact HB.out)⟩
  · rw [if_neg c3] at H
    have c3b0 : decide (3000 < (a0.size : Int)) = false := decide_eq_false c3
    have c3b1 : decide (3000 < a0.size) = false := decide_eq_false (by omega)
    clear c3
    replace H := Option.bind_eq_some_iff.mp H
    obtain ⟨⟨t254, t255⟩, A60, H⟩ := H
    replace H : (if a1 = true then (muslinlaw20_PlainLevels.j0 k a0 a1 t254 t255 (⟨#[62, 32]⟩ : ByteArray)) else (muslinlaw20_PlainLevels.j0 k a0 a1 t254 t255 (⟨#[62]⟩ : ByteArray))) = some r := H
    have A6 := Aside0.mk A60
    clear A60
    have HC7 := Aside0.mk H
    clear H
    go_enter Try.func6, Try.ntmps6
    go_upto_if 19 with (first | ((with_reducible refine gate_callee (f := 10) rfl ?_); refine goesL_ (some 16) rfl rfl Try.func10 (by kernel_rfl) rfl #[.string a0] rfl (by (try simp only [List.map_toArray, List.map_cons, List.map_nil]); first | done | rfl | (simp only [List.length_drop, List.length_take]; rfl)) ?_; (with_reducible refine (plain_Level.calls k a0 t254 t255 _ A6.out).mono ?_); rintro e w' ⟨rfl, ⟨nd, rfl⟩⟩; refine ⟨_, rfl, ?_⟩))
    (try simp only [Act.put, List.setIfInBounds_toArray, List.set_cons_zero, List.set_cons_succ])
    go_cut [7] (fun v7 wc => ∃ (kq : Nat) (x7_6 : ByteArray), v7 = .string x7_6 ∧ Aside0 (muslinlaw20_PlainLevels.j0 kq a0 a1 t254 t255 x7_6 = some r) ∧ Aside0 (kq ≤ k) ∧ Aside0 (Below w.heap.size w wc))
    case first =>
      have H := HC7.out
      clear HC7
      by_cases c8 : a1 = true
      · subst c8
        have H1 : (muslinlaw20_PlainLevels.j0 k a0 true t254 t255 (⟨#[62, 32]⟩ : ByteArray)) = some r := by rw [if_pos rfl] at H; exact H
        clear H
        have H := H1
        clear H1
        have H' := Aside0.mk H
        clear H
        go_wp2
        go_meet
        case rel => exact ⟨_, ((⟨#[62, 32]⟩ : ByteArray)), (by first | rfl | (simp; done) | (simp [*]; done)), H', ⟨by first | omega | exact Nat.le_refl _⟩, ⟨by repeat (first | (with_reducible first | exact HB.out | apply below_alloc | apply pw_below_drewN | apply below_drew1) | exact HB.out)⟩⟩
      · replace c8 := Bool.eq_false_iff.mpr c8
        subst c8
        have H1 : (muslinlaw20_PlainLevels.j0 k a0 false t254 t255 (⟨#[62]⟩ : ByteArray)) = some r := by rw [if_neg (show ¬ (false = true) by decide)] at H; exact H
        clear H
        have H := H1
        clear H1
        have H' := Aside0.mk H
        clear H
        go_wp2
        go_meet
        case rel => exact ⟨_, ((⟨#[62]⟩ : ByteArray)), (by first | rfl | (simp; done) | (simp [*]; done)), H', ⟨by first | omega | exact Nat.le_refl _⟩, ⟨by repeat (first | (with_reducible first | exact HB.out | apply below_alloc | apply pw_below_drewN | apply below_drew1) | exact HB.out)⟩⟩
    case rest =>
      clear HC7
      try clear c1
      try clear p2
      try clear c3
      try clear c3b0
      try clear c3b1
      try clear c6
      try clear c8
      obtain ⟨kq, x7_6, rfl, HA, HJ6, HB⟩ := hcut
      cases kq with
      | zero => exact absurd HA.out (by simp [muslinlaw20_PlainLevels.j0])
      | succ kj6 =>
        have H := HA.out
        clear HA
        simp only [muslinlaw20_PlainLevels.j0] at H
        by_cases c9 : x7_6.size + a0.size ≤ 9223372036854775807
        · rw [if_pos c9] at H
          have c9b0 := eq_true c9
          have c9b1 : decide (x7_6.size + a0.size ≤ 9223372036854775807) = true := decide_eq_true c9
          try have c9b2 : (9223372036854775807 < x7_6.size + a0.size) = False := eq_false (Nat.not_lt.2 c9)
          replace H := Option.bind_eq_some_iff.mp H
          obtain ⟨⟨t256, t257⟩, A100, H⟩ := H
          replace H : (if a0.toList = ([] : List UInt8) then (if t254 = 0 then (muslinlaw20_PlainLevels.j1 kj6 a0 a1 t254 t255 t256 t257 (t255.toList != a0.toList)) else (muslinlaw20_PlainLevels.j1 kj6 a0 a1 t254 t255 t256 t257 true)) else (if 0 < (a0.size : Int) then (if (bt a0 0) = 62 then (muslinlaw20_PlainLevels.j1 kj6 a0 a1 t254 t255 t256 t257 false) else (if t254 = 0 then (muslinlaw20_PlainLevels.j1 kj6 a0 a1 t254 t255 t256 t257 (t255.toList != a0.toList)) else (muslinlaw20_PlainLevels.j1 kj6 a0 a1 t254 t255 t256 t257 true))) else (none))) = some r := H
          have A10 := Aside0.mk A100
          clear A100
          have HC11 := Aside0.mk H
          clear H
          go_upto_region 8 with (first | ((with_reducible refine gate_callee (f := 10) rfl ?_); refine goesL_ (some 24) rfl rfl Try.func10 (by kernel_rfl) rfl #[.string (x7_6 ++ a0)] rfl (by (try simp only [List.map_toArray, List.map_cons, List.map_nil]); first | done | rfl | (simp only [List.length_drop, List.length_take]; rfl)) ?_; (with_reducible refine (plain_Level.calls kj6 (x7_6 ++ a0) t256 t257 _ A10.out).mono ?_); rintro e w' ⟨rfl, ⟨nd, rfl⟩⟩; refine ⟨_, rfl, ?_⟩))
          (try simp only [Act.put, List.setIfInBounds_toArray, List.set_cons_zero, List.set_cons_succ])
          go_cut [42] (fun v42 wc => ∃ (kq : Nat) (x42_10 : Bool), v42 = .bool x42_10 ∧ Aside0 (muslinlaw20_PlainLevels.j1 kq a0 a1 t254 t255 t256 t257 x42_10 = some r) ∧ Aside0 (kq ≤ kj6) ∧ Aside0 (Below w.heap.size w wc))
          case first =>
            have H := HC11.out
            clear HC11
            by_cases c12 : a0.toList = ([] : List UInt8)
            · rw [if_pos c12] at H
              have c12b0 : (a0.toList == ([] : List UInt8)) = true := beq_iff_eq.mpr c12
              have c12b1 : (a0.toList != ([] : List UInt8)) = false := bne_eq_false_iff_eq.mpr c12
              clear c12
              (first | rw [c12b0] | (simp only [i64_w, i32_w]; rw [c12b0]) | skip)
              by_cases c13 : t254 = 0
              · rw [if_pos c13] at H
                have c13b0 : (t254 == 0) = true := beq_iff_eq.mpr c13
                have c13b1 : (t254 != 0) = false := bne_eq_false_iff_eq.mpr c13
                clear c13
                have H' := Aside0.mk H
                clear H
                go_wp2
                go_meet
                case rel => exact ⟨_, ((t255.toList != a0.toList)), (by first | rfl | (simp; done) | (simp [*]; done)), H', ⟨by have := HJ6.out; first | omega | exact Nat.le_refl _⟩, ⟨by repeat (first | (with_reducible first | exact HB.out | apply below_alloc | apply pw_below_drewN | apply below_drew1) | exact HB.out)⟩⟩
              · rw [if_neg c13] at H
                have c13b0 : (t254 == 0) = false := beq_eq_false_iff_ne.mpr c13
                have c13b1 : (t254 != 0) = true := bne_iff_ne.mpr c13
                have H' := Aside0.mk H
                clear H
                go_wp2
                go_meet
                case rel => exact ⟨_, (true), (by first | rfl | (simp; done) | (simp [*]; done)), H', ⟨by have := HJ6.out; first | omega | exact Nat.le_refl _⟩, ⟨by repeat (first | (with_reducible first | exact HB.out | apply below_alloc | apply pw_below_drewN | apply below_drew1) | exact HB.out)⟩⟩
            · rw [if_neg c12] at H
              have c12b0 : (a0.toList == ([] : List UInt8)) = false := beq_eq_false_iff_ne.mpr c12
              have c12b1 : (a0.toList != ([] : List UInt8)) = true := bne_iff_ne.mpr c12
              (first | rw [c12b0] | (simp only [i64_w, i32_w]; rw [c12b0]) | skip)
              by_cases c14 : 0 < (a0.size : Int)
              · rw [if_pos c14] at H
                have c14b0 : decide (0 < (a0.size : Int)) = true := decide_eq_true c14
                have c14b1 : decide (0 < a0.size) = true := decide_eq_true (by omega)
                clear c14
                by_cases c16 : (bt a0 0) = 62
                · rw [if_pos c16] at H
                  have c16b0 : ((bt a0 0) == 62) = true := beq_iff_eq.mpr c16
                  have c16b1 : ((bt a0 0) != 62) = false := bne_eq_false_iff_eq.mpr c16
                  clear c16
                  have H' := Aside0.mk H
                  clear H
                  have p15 : 0 ≤ (0 : Int) := (by omega)
                  have q15 : 0 < a0.size := (by have : (0 : Int) < (a0.size : Int) := of_decide_eq_true (by first | (with_reducible assumption) | assumption); omega)
                  have hx15 : ∀ h : 0 < a0.size, ((a0[0]'h).toNat : Int) = bt a0 0 := bt_at a0 0
                  clear p15
                  have qi15 : (0 < (a0.size : Int)) = True := eq_true (of_decide_eq_true (by first | (with_reducible assumption) | assumption))
                  replace q15 := eq_true q15
                  go_wp2
                  go_meet
                  case rel => exact ⟨_, (false), (by first | rfl | (simp; done) | (simp [*]; done)), H', ⟨by have := HJ6.out; first | omega | exact Nat.le_refl _⟩, ⟨by repeat (first | (with_reducible first | exact HB.out | apply below_alloc | apply pw_below_drewN | apply below_drew1) | exact HB.out)⟩⟩
                · rw [if_neg c16] at H
                  have c16b0 : ((bt a0 0) == 62) = false := beq_eq_false_iff_ne.mpr c16
                  have c16b1 : ((bt a0 0) != 62) = true := bne_iff_ne.mpr c16
                  by_cases c17 : t254 = 0
                  · rw [if_pos c17] at H
                    have c17b0 : (t254 == 0) = true := beq_iff_eq.mpr c17
                    have c17b1 : (t254 != 0) = false := bne_eq_false_iff_eq.mpr c17
                    clear c17
                    have H' := Aside0.mk H
                    clear H
                    have p15 : 0 ≤ (0 : Int) := (by omega)
                    have q15 : 0 < a0.size := (by have : (0 : Int) < (a0.size : Int) := of_decide_eq_true (by first | (with_reducible assumption) | assumption); omega)
                    have hx15 : ∀ h : 0 < a0.size, ((a0[0]'h).toNat : Int) = bt a0 0 := bt_at a0 0
                    clear p15
                    have qi15 : (0 < (a0.size : Int)) = True := eq_true (of_decide_eq_true (by first | (with_reducible assumption) | assumption))
                    replace q15 := eq_true q15
                    go_wp2
                    go_meet
                    case rel => exact ⟨_, ((t255.toList != a0.toList)), (by first | rfl | (simp; done) | (simp [*]; done)), H', ⟨by have := HJ6.out; first | omega | exact Nat.le_refl _⟩, ⟨by repeat (first | (with_reducible first | exact HB.out | apply below_alloc | apply pw_below_drewN | apply below_drew1) | exact HB.out)⟩⟩
                  · rw [if_neg c17] at H
                    have c17b0 : (t254 == 0) = false := beq_eq_false_iff_ne.mpr c17
                    have c17b1 : (t254 != 0) = true := bne_iff_ne.mpr c17
                    have H' := Aside0.mk H
                    clear H
                    have p15 : 0 ≤ (0 : Int) := (by omega)
                    have q15 : 0 < a0.size := (by have : (0 : Int) < (a0.size : Int) := of_decide_eq_true (by first | (with_reducible assumption) | assumption); omega)
                    have hx15 : ∀ h : 0 < a0.size, ((a0[0]'h).toNat : Int) = bt a0 0 := bt_at a0 0
                    clear p15
                    have qi15 : (0 < (a0.size : Int)) = True := eq_true (of_decide_eq_true (by first | (with_reducible assumption) | assumption))
                    replace q15 := eq_true q15
                    go_wp2
                    go_meet
                    case rel => exact ⟨_, (true), (by first | rfl | (simp; done) | (simp [*]; done)), H', ⟨by have := HJ6.out; first | omega | exact Nat.le_refl _⟩, ⟨by repeat (first | (with_reducible first | exact HB.out | apply below_alloc | apply pw_below_drewN | apply below_drew1) | exact HB.out)⟩⟩
              · rw [if_neg c14] at H
                exact absurd H (by simp)
          case rest =>
            clear HC11
            try clear c1
            try clear p1
            try clear q1
            try clear hx1
            try clear qi1
            try clear p2
            try clear c3
            try clear c3b0
            try clear c3b1
            try clear c6
            try clear c8
            try clear c9
            try clear c9b0
            try clear c9b1
            try clear c9b2
            try clear c10
            try clear c12
            try clear c12b0
            try clear c12b1
            try clear c13
            try clear c13b0
            try clear c13b1
            try clear c14
            try clear c14b0
            try clear c14b1
            try clear p15
            try clear q15
            try clear hx15
            try clear qi15
            try clear c16
            try clear c16b0
            try clear c16b1
            try clear c17
            try clear c17b0
            try clear c17b1
            try clear p15
            try clear p2
            try clear q15
            obtain ⟨kq, x42_10, rfl, HA, HJ10, HB⟩ := hcut
            cases kq with
            | zero => exact absurd HA.out (by simp [muslinlaw20_PlainLevels.j1])
            | succ kj10 =>
              have H := HA.out
              clear HA
              simp only [muslinlaw20_PlainLevels.j1] at H
              by_cases c18 : x42_10 = true
              · subst c18
                have H1 : (some false) = some r := by rw [if_pos rfl] at H; exact H
                clear H
                have H := H1
                clear H1
                obtain rfl := Option.some.inj H
                go_wp2
                go_ret
                exact ⟨by first | rfl | (simp [errW_none, errW_some] <;> rfl) | (simp [*, errW_none, errW_some] <;> rfl), by repeat (first | (with_reducible first | exact HB.out | apply below_alloc | apply pw_below_drewN | apply below_drew1) | exact HB.out)⟩
              · replace c18 := Bool.eq_false_iff.mpr c18
                subst c18
                have H1 : (if a1 = true then (muslinlaw20_PlainLevels.j2 kj10 a0 t254 t255 t256 t257 false) else (if a0.toList = ([] : List UInt8) then (muslinlaw20_PlainLevels.j2 kj10 a0 t254 t255 t256 t257 false) else (if 0 < (a0.size : Int) then (muslinlaw20_PlainLevels.j2 kj10 a0 t254 t255 t256 t257 ((bt a0 0) == 32)) else (none)))) = some r := by rw [if_neg (show ¬ (false = true) by decide)] at H; exact H
                clear H
                have H := H1
                clear H1
                have HC19 := Aside0.mk H
                clear H
                go_upto_region 10 with (fail)
                go_cut [53] (fun v53 wc => ∃ (kq : Nat) (x53_18 : Bool), v53 = .bool x53_18 ∧ Aside0 (muslinlaw20_PlainLevels.j2 kq a0 t254 t255 t256 t257 x53_18 = some r) ∧ Aside0 (kq ≤ kj10) ∧ Aside0 (Below w.heap.size w wc))
                case first =>
                  have H := HC19.out
                  clear HC19
                  by_cases c20 : a1 = true
                  · subst c20
                    have H1 : (muslinlaw20_PlainLevels.j2 kj10 a0 t254 t255 t256 t257 false) = some r := by rw [if_pos rfl] at H; exact H
                    clear H
                    have H := H1
                    clear H1
                    have H' := Aside0.mk H
                    clear H
                    go_wp2
                    go_meet
                    case rel => exact ⟨_, (false), (by first | rfl | (simp; done) | (simp [*]; done)), H', ⟨by have := HJ6.out; have := HJ10.out; first | omega | exact Nat.le_refl _⟩, ⟨by repeat (first | (with_reducible first | exact HB.out | apply below_alloc | apply pw_below_drewN | apply below_drew1) | exact HB.out)⟩⟩
                  · replace c20 := Bool.eq_false_iff.mpr c20
                    subst c20
                    have H1 : (if a0.toList = ([] : List UInt8) then (muslinlaw20_PlainLevels.j2 kj10 a0 t254 t255 t256 t257 false) else (if 0 < (a0.size : Int) then (muslinlaw20_PlainLevels.j2 kj10 a0 t254 t255 t256 t257 ((bt a0 0) == 32)) else (none))) = some r := by rw [if_neg (show ¬ (false = true) by decide)] at H; exact H
                    clear H
                    have H := H1
                    clear H1
                    by_cases c21 : a0.toList = ([] : List UInt8)
                    · rw [if_pos c21] at H
                      have c21b0 : (a0.toList == ([] : List UInt8)) = true := beq_iff_eq.mpr c21
                      have c21b1 : (a0.toList != ([] : List UInt8)) = false := bne_eq_false_iff_eq.mpr c21
                      clear c21
                      (first | rw [c21b0] | (simp only [i64_w, i32_w]; rw [c21b0]) | skip)
                      have H' := Aside0.mk H
                      clear H
                      go_wp2
                      go_meet
                      case rel => exact ⟨_, (false), (by first | rfl | (simp; done) | (simp [*]; done)), H', ⟨by have := HJ6.out; have := HJ10.out; first | omega | exact Nat.le_refl _⟩, ⟨by repeat (first | (with_reducible first | exact HB.out | apply below_alloc | apply pw_below_drewN | apply below_drew1) | exact HB.out)⟩⟩
                    · rw [if_neg c21] at H
                      have c21b0 : (a0.toList == ([] : List UInt8)) = false := beq_eq_false_iff_ne.mpr c21
                      have c21b1 : (a0.toList != ([] : List UInt8)) = true := bne_iff_ne.mpr c21
                      (first | rw [c21b0] | (simp only [i64_w, i32_w]; rw [c21b0]) | skip)
                      by_cases c22 : 0 < (a0.size : Int)
                      · rw [if_pos c22] at H
                        have c22b0 : decide (0 < (a0.size : Int)) = true := decide_eq_true c22
                        have c22b1 : decide (0 < a0.size) = true := decide_eq_true (by omega)
                        clear c22
                        have H' := Aside0.mk H
                        clear H
                        have p23 : 0 ≤ (0 : Int) := (by omega)
                        have q23 : 0 < a0.size := (by have : (0 : Int) < (a0.size : Int) := of_decide_eq_true (by first | (with_reducible assumption) | assumption); omega)
                        have hx23 : ∀ h : 0 < a0.size, ((a0[0]'h).toNat : Int) = bt a0 0 := bt_at a0 0
                        clear p23
                        have qi23 : (0 < (a0.size : Int)) = True := eq_true (of_decide_eq_true (by first | (with_reducible assumption) | assumption))
                        replace q23 := eq_true q23
                        go_wp2
                        go_meet
                        case rel => exact ⟨_, (((bt a0 0) == 32)), (by first | rfl | (simp; done) | (simp [*]; done)), H', ⟨by have := HJ6.out; have := HJ10.out; first | omega | exact Nat.le_refl _⟩, ⟨by repeat (first | (with_reducible first | exact HB.out | apply below_alloc | apply pw_below_drewN | apply below_drew1) | exact HB.out)⟩⟩
                      · rw [if_neg c22] at H
                        exact absurd H (by simp)
                case rest =>
                  clear HC19
                  try clear c1
                  try clear p1
                  try clear q1
                  try clear hx1
                  try clear qi1
                  try clear c2
                  try clear p2
                  try clear q2
                  try clear hx2
                  try clear qi2
                  try clear c3
                  try clear c3b0
                  try clear c3b1
                  try clear c6
                  try clear c8
                  try clear c9
                  try clear c9b0
                  try clear c9b1
                  try clear c9b2
                  try clear c10
                  try clear c12
                  try clear c12b0
                  try clear c12b1
                  try clear c13
                  try clear c13b0
                  try clear c13b1
                  try clear c14
                  try clear c14b0
                  try clear c14b1
                  try clear p15
                  try clear q15
                  try clear hx15
                  try clear qi15
                  try clear c16
                  try clear c16b0
                  try clear c16b1
                  try clear c17
                  try clear c17b0
                  try clear c17b1
                  try clear c18
                  try clear c20
                  try clear c21
                  try clear c21b0
                  try clear c21b1
                  try clear c22
                  try clear c22b0
                  try clear c22b1
                  try clear p23
                  try clear q23
                  try clear hx23
                  try clear qi23
                  try clear p1
                  try clear p15
                  try clear p2
                  try clear p23
                  try clear q1
                  try clear q15
                  try clear q23
                  obtain ⟨kq, x53_18, rfl, HA, HJ18, HB⟩ := hcut
                  cases kq with
                  | zero => exact absurd HA.out (by simp [muslinlaw20_PlainLevels.j2])
                  | succ kj18 =>
                    have H := HA.out
                    clear HA
                    simp only [muslinlaw20_PlainLevels.j2] at H
                    have HC24 := Aside0.mk H
                    clear H
                    go_upto_if 53 with (fail)
                    go_cut [5, 6] (fun v5 v6 wc => ∃ (kq : Nat) (x5_23 : Int) (x6_23 : ByteArray), v5 = .int .i64 x5_23 ∧ v6 = .string x6_23 ∧ Aside0 (muslinlaw20_PlainLevels.j3 kq x5_23 x6_23 t256 t257 = some r) ∧ Aside0 (kq ≤ kj18) ∧ Aside0 (Below w.heap.size w wc))
                    case first =>
                      have H := HC24.out
                      clear HC24
                      by_cases c25 : x53_18 = true
                      · subst c25
                        have H1 : (if 1 ≤ (a0.size : Int) then ((plain_Level.f kj18 (a0.extract 1 a0.size)).bind fun bt258 => (muslinlaw20_PlainLevels.j3 kj18 bt258.1 bt258.2 t256 t257)) else (none)) = some r := by rw [if_pos rfl] at H; exact H
                        clear H
                        have H := H1
                        clear H1
                        by_cases c26 : 1 ≤ (a0.size : Int)
                        · rw [if_pos c26] at H
                          have c26b0 := eq_true c26
                          have c26b1 : decide (1 ≤ (a0.size : Int)) = true := decide_eq_true c26
                          clear c26
                          replace H := Option.bind_eq_some_iff.mp H
                          obtain ⟨⟨t258, t259⟩, A270, H⟩ := H
                          replace H : (muslinlaw20_PlainLevels.j3 kj18 t258 t259 t256 t257) = some r := H
                          have A27 := Aside0.mk A270
                          clear A270
                          have H' := Aside0.mk H
                          clear H
                          go_wp2_with (first | ((with_reducible refine gate_callee (f := 10) rfl ?_); refine goesL_ (some 57) rfl rfl Try.func10 (by kernel_rfl) rfl #[.string (a0.extract 1 a0.size)] rfl (by (try simp only [List.map_toArray, List.map_cons, List.map_nil]); first | done | rfl | (simp only [List.length_drop, List.length_take]; rfl)) ?_; (with_reducible refine (plain_Level.calls kj18 (a0.extract 1 a0.size) t258 t259 _ A27.out).mono ?_); rintro e w' ⟨rfl, ⟨nd, rfl⟩⟩; refine ⟨_, rfl, ?_⟩))
                          go_meet
                          case rel => exact ⟨_, (t258), (t259), (by first | rfl | (simp; done) | (simp [*]; done)), (by first | rfl | (simp; done) | (simp [*]; done)), H', ⟨by have := HJ6.out; have := HJ10.out; have := HJ18.out; first | omega | exact Nat.le_refl _⟩, ⟨by repeat (first | (with_reducible first | exact HB.out | apply below_alloc | apply pw_below_drewN | apply below_drew1) | exact HB.out)⟩⟩
                        · rw [if_neg c26] at H
                          exact absurd H (by simp)
                      · replace c25 := Bool.eq_false_iff.mpr c25
                        subst c25
                        have H1 : (muslinlaw20_PlainLevels.j3 kj18 t254 t255 t256 t257) = some r := by rw [if_neg (show ¬ (false = true) by decide)] at H; exact H
                        clear H
                        have H := H1
                        clear H1
                        have H' := Aside0.mk H
                        clear H
                        go_wp2
                        go_meet
                        case rel => exact ⟨_, (t254), (t255), (by first | rfl | (simp; done) | (simp [*]; done)), (by first | rfl | (simp; done) | (simp [*]; done)), H', ⟨by have := HJ6.out; have := HJ10.out; have := HJ18.out; first | omega | exact Nat.le_refl _⟩, ⟨by repeat (first | (with_reducible first | exact HB.out | apply below_alloc | apply pw_below_drewN | apply below_drew1) | exact HB.out)⟩⟩
                    case rest =>
                      clear HC24
                      try clear c1
                      try clear p1
                      try clear q1
                      try clear hx1
                      try clear qi1
                      try clear c2
                      try clear p2
                      try clear q2
                      try clear hx2
                      try clear qi2
                      try clear c3
                      try clear c3b0
                      try clear c3b1
                      try clear c6
                      try clear c8
                      try clear c9
                      try clear c9b0
                      try clear c9b1
                      try clear c9b2
                      try clear c10
                      try clear c12
                      try clear c12b0
                      try clear c12b1
                      try clear c13
                      try clear c13b0
                      try clear c13b1
                      try clear c14
                      try clear c14b0
                      try clear c14b1
                      try clear p15
                      try clear q15
                      try clear hx15
                      try clear qi15
                      try clear c16
                      try clear c16b0
                      try clear c16b1
                      try clear c17
                      try clear c17b0
                      try clear c17b1
                      try clear c18
                      try clear c20
                      try clear c21
                      try clear c21b0
                      try clear c21b1
                      try clear c22
                      try clear c22b0
                      try clear c22b1
                      try clear p23
                      try clear q23
                      try clear hx23
                      try clear qi23
                      try clear c25
                      try clear c26
                      try clear c26b0
                      try clear c26b1
                      try clear p1
                      try clear p15
                      try clear p2
                      try clear p23
                      try clear q1
                      try clear q15
                      try clear q2
                      try clear q23
                      obtain ⟨kq, x5_23, x6_23, rfl, rfl, HA, HJ23, HB⟩ := hcut
                      cases kq with
                      | zero => exact absurd HA.out (by simp [muslinlaw20_PlainLevels.j3])
                      | succ kj23 =>
                        have H := HA.out
                        clear HA
                        simp only [muslinlaw20_PlainLevels.j3] at H
                        by_cases c28 : x5_23 = 20
                        · rw [if_pos c28] at H
                          have c28b0 : (x5_23 == 20) = true := beq_iff_eq.mpr c28
                          have c28b1 : (x5_23 != 20) = false := bne_eq_false_iff_eq.mpr c28
                          clear c28
                          by_cases c29 : t256 = 20
                          · rw [if_pos c29] at H
                            have c29b0 : (t256 == 20) = true := beq_iff_eq.mpr c29
                            have c29b1 : (t256 != 20) = false := bne_eq_false_iff_eq.mpr c29
                            clear c29
                            replace H := Option.bind_eq_some_iff.mp H
                            obtain ⟨t260, A300, H⟩ := H
                            replace H : (some t260) = some r := H
                            have A30 := Aside0.mk A300
                            clear A300
                            obtain rfl := Option.some.inj H
                            go_wp2_with (first | (go_at_call 9; (with_reducible refine (muslinlaw20_live.calls kj23  t260 _ A30.out).mono ?_); rintro e w31 ⟨rfl, hb⟩; have n0_ := Aside0.mk (below_step (by repeat (first | (with_reducible first | exact HB.out | apply below_alloc | apply pw_below_drewN | apply below_drew1) | exact HB.out)) hb); clear HB; have HB := n0_; clear n0_; (try clear hb); (try clear hb2); (try clear hk); (try clear hi)))
                            go_ret
                            exact ⟨by first | rfl | (simp [errW_none, errW_some] <;> rfl) | (simp [*, errW_none, errW_some] <;> rfl), by repeat (first | (with_reducible first | exact HB.out | apply below_alloc | apply pw_below_drewN | apply below_drew1) | exact HB.out)⟩
                          · rw [if_neg c29] at H
                            have c29b0 : (t256 == 20) = false := beq_eq_false_iff_ne.mpr c29
                            have c29b1 : (t256 != 20) = true := bne_iff_ne.mpr c29
                            obtain rfl := Option.some.inj H
                            go_wp2
                            go_ret
                            exact ⟨by first | rfl | (simp [errW_none, errW_some] <;> rfl) | (simp [*, errW_none, errW_some] <;> rfl), by repeat (first | (with_reducible first | exact HB.out | apply below_alloc | apply pw_below_drewN | apply below_drew1) | exact HB.out)⟩
                        · rw [if_neg c28] at H
                          have c28b0 : (x5_23 == 20) = false := beq_eq_false_iff_ne.mpr c28
                          have c28b1 : (x5_23 != 20) = true := bne_iff_ne.mpr c28
                          by_cases c32 : t256 = (wrap64 (x5_23 + 1))
                          · rw [if_pos c32] at H
                            have c32b0 : (t256 == (wrap64 (x5_23 + 1))) = true := beq_iff_eq.mpr c32
                            have c32b1 : (t256 != (wrap64 (x5_23 + 1))) = false := bne_eq_false_iff_eq.mpr c32
                            clear c32
                            by_cases c33 : t257.toList = x6_23.toList
                            · rw [if_pos c33] at H
                              have c33b0 : (t257.toList == x6_23.toList) = true := beq_iff_eq.mpr c33
                              have c33b1 : (t257.toList != x6_23.toList) = false := bne_eq_false_iff_eq.mpr c33
                              clear c33
                              replace H := Option.bind_eq_some_iff.mp H
                              obtain ⟨t261, A340, H⟩ := H
                              replace H : (some t261) = some r := H
                              have A34 := Aside0.mk A340
                              clear A340
                              obtain rfl := Option.some.inj H
                              go_wp2_with (first | (go_at_call 9; (with_reducible refine (muslinlaw20_live.calls kj23  t261 _ A34.out).mono ?_); rintro e w35 ⟨rfl, hb⟩; have n0_ := Aside0.mk (below_step (by repeat (first | (with_reducible first | exact HB.out | apply below_alloc | apply pw_below_drewN | apply below_drew1) | exact HB.out)) hb); clear HB; have HB := n0_; clear n0_; (try clear hb); (try clear hb2); (try clear hk); (try clear hi)))
                              go_ret
                              exact ⟨by first | rfl | (simp [errW_none, errW_some] <;> rfl) | (simp [*, errW_none, errW_some] <;> rfl), by repeat (first | (with_reducible first | exact HB.out | apply below_alloc | apply pw_below_drewN | apply below_drew1) | exact HB.out)⟩
                            · rw [if_neg c33] at H
                              have c33b0 : (t257.toList == x6_23.toList) = false := beq_eq_false_iff_ne.mpr c33
                              have c33b1 : (t257.toList != x6_23.toList) = true := bne_iff_ne.mpr c33
                              obtain rfl := Option.some.inj H
                              go_wp2
                              go_ret
                              exact ⟨by first | rfl | (simp [errW_none, errW_some] <;> rfl) | (simp [*, errW_none, errW_some] <;> rfl), by repeat (first | (with_reducible first | exact HB.out | apply below_alloc | apply pw_below_drewN | apply below_drew1) | exact HB.out)⟩
                          · rw [if_neg c32] at H
                            have c32b0 : (t256 == (wrap64 (x5_23 + 1))) = false := beq_eq_false_iff_ne.mpr c32
                            have c32b1 : (t256 != (wrap64 (x5_23 + 1))) = true := bne_iff_ne.mpr c32
                            obtain rfl := Option.some.inj H
                            go_wp2
                            go_ret
                            exact ⟨by first | rfl | (simp [errW_none, errW_some] <;> rfl) | (simp [*, errW_none, errW_some] <;> rfl), by repeat (first | (with_reducible first | exact HB.out | apply below_alloc | apply pw_below_drewN | apply below_drew1) | exact HB.out)⟩
        · rw [if_neg c9] at H
          exact absurd H (by simp)

/-- THE ONE PURE STATEMENT of muslinlaw20_PlainLevels: yours. -/
def muslinlaw20_PlainLevels.Pure : Prop := ∀ (a0 : ByteArray) (a1 : Bool), a0.size ≤ 140737488351232 → ∃ k, muslinlaw20_PlainLevels.f k a0 a1 = some true
theorem muslinlaw20_PlainLevels.walk (P : muslinlaw20_PlainLevels.Pure) (a0 : ByteArray) (a1 : Bool) (w : World) (w0 : a0.size ≤ 140737488351232) :
    Calls Try.prog 6 #[.string a0, .bool a1] w fun e w' => e = .returned (.bool true) ∧ Below w.heap.size w w' := by
  obtain ⟨k, h⟩ := P a0 a1 w0
  refine (muslinlaw20_PlainLevels.calls k a0 a1 true w h).mono ?_
  rintro e w' ⟨rfl, hd⟩
  exact ⟨rfl, hd⟩

end Go.Proofs.Ythnbhcmekkadeaa.Pr
