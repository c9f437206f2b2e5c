/- Written by a program of this session (printx.py), with functions proved by hand counted as printed; Lean checks it. -/
import Derived.Test.YthnbhcmekkadeaaPrx0
import Derived.Test.YthnbhcmekkadeaaPrx2
import Derived.Test.YthnbhcmekkadeaaPrx3
import Derived.Test.YthnbhcmekkadeaaPrx4
import Derived.Test.YthnbhcmekkadeaaPrx5
import Derived.Test.YthnbhcmekkadeaaPrx6
namespace Go.Proofs.Ythnbhcmekkadeaa.Pr
open Go.RowKit Go.Proofs.YthnbhcmekkadeaaW.PrintWords Go.Proofs.YthnbhcmekkadeaaW.PrintLast Go.Proofs.YthnbhcmekkadeaaW.PrintMore
attribute [local go_sem] max2_int min2_int max_two min_two max_three min_three max_four min_four   -- for this text's walks alone
set_option linter.unusedVariables false
set_option linter.unusedSimpArgs false

private theorem sz_2 (a0 a1 : UInt8) : (⟨#[a0, a1]⟩ : ByteArray).size = 2 := rfl

/-! ### muslinlaw20_PlainJoined: function 8 -/
mutual
def muslinlaw20_PlainJoined.j0 : Nat → ByteArray → ByteArray → Bool → Option (Bool)
  | 0, _, _, _ => none
  | k + 1, x0, x1, x27 => if x27 = true then ((muslinlaw20_live.f k).bind fun t285 => (some t285)) else ((muslinref06_Cut.f k x0).bind fun t286 => ((muslinref06_Cut.f k x1).bind fun t289 => (if 0 ≤ (wrap64 ((t286.length : Int) - 1)) then (if (wrap64 ((t286.length : Int) - 1)) < (t286.length : Int) then ((plain_Level.f k (rdOf ByteArray.empty t286 (wrap64 ((t286.length : Int) - 1)))).bind fun bt293 => (if 0 < (t289.length : Int) then ((plain_Level.f k (rdOf ByteArray.empty t289 0)).bind fun bt296 => (if bt293.1 > 0 then (muslinlaw20_PlainJoined.j1 k x0 x1 true) else (if bt296.1 > 0 then (muslinlaw20_PlainJoined.j1 k x0 x1 true) else (if 0 ≤ (wrap64 ((x0.size : Int) - 1)) then (if (wrap64 ((x0.size : Int) - 1)) < (x0.size : Int) then (if (bt x0 (wrap64 ((x0.size : Int) - 1))) = 10 then (muslinlaw20_PlainJoined.j1 k x0 x1 true) else (muslinlaw20_PlainJoined.j1 k x0 x1 ((bt x0 (wrap64 ((x0.size : Int) - 1))) == 13))) else (none)) else (none))))) else (none))) else (none)) else (none))))
def muslinlaw20_PlainJoined.j1 : Nat → ByteArray → ByteArray → Bool → Option (Bool)
  | 0, _, _, _ => none
  | k + 1, x0, x1, x71 => if x71 = true then ((muslinlaw20_live.f k).bind fun t298 => (some t298)) else ((plain_Tree.f k x0).bind fun t299 => (if ([] : List (S36)).length + t299.length < 1759218604441 then ((some (([] : List (S36)) ++ t299 : List (S36))).bind fun y302 => (if y302.length < 1759218604441 then ((some (y302 ++ [(⟨(⟨#[98, 114]⟩ : ByteArray), ([] : List (S51)), (⟨#[]⟩ : ByteArray), ([] : List (S36))⟩ : S36)] : List (S36))).bind fun y305 => (if y305.length < 1759218604441 then ((some (y305 ++ [(⟨(⟨#[98, 114]⟩ : ByteArray), ([] : List (S51)), (⟨#[]⟩ : ByteArray), ([] : List (S36))⟩ : S36)] : List (S36))).bind fun y308 => ((plain_Tree.f k x1).bind fun t311 => (if y308.length + t311.length < 1759218604441 then (if x0.size + 2 ≤ 9223372036854775807 then (if (x0 ++ (⟨#[10, 10]⟩ : ByteArray)).size + x1.size ≤ 9223372036854775807 then ((plain_Tree.f k ((x0 ++ (⟨#[10, 10]⟩ : ByteArray)) ++ x1)).bind fun t317 => ((muslinref14_Same.f k t317 (y308 ++ t311)).bind fun t320 => (if t320 = true then ((muslinlaw20_live.f k).bind fun t321 => (some t321)) else (some false)))) else (none)) else (none)) else (none)))) else (none))) else (none))) else (none)))
end
def muslinlaw20_PlainJoined.f (k : Nat) (a0 : ByteArray) (a1 : ByteArray) : Option (Bool) := if (a0.size : Int) > 1000 then (muslinlaw20_PlainJoined.j0 k a0 a1 true) else (if (a1.size : Int) > 1000 then (muslinlaw20_PlainJoined.j0 k a0 a1 true) else (if a0.toList = ([] : List UInt8) then (muslinlaw20_PlainJoined.j0 k a0 a1 true) else (muslinlaw20_PlainJoined.j0 k a0 a1 (a1.toList == ([] : List UInt8)))))
theorem muslinlaw20_PlainJoined.mono_l : ∀ k, (∀ y0 y1 y2, LeO (muslinlaw20_PlainJoined.j0 k y0 y1 y2) (muslinlaw20_PlainJoined.j0 (k + 1) y0 y1 y2)) ∧ (∀ y0 y1 y2, LeO (muslinlaw20_PlainJoined.j1 k y0 y1 y2) (muslinlaw20_PlainJoined.j1 (k + 1) y0 y1 y2))
  | 0 => ⟨fun _ _ _ r h => by simp [muslinlaw20_PlainJoined.j0] at h, fun _ _ _ r h => by simp [muslinlaw20_PlainJoined.j1] at h⟩
  | k + 1 => by
    obtain ⟨ih0, ih1⟩ := muslinlaw20_PlainJoined.mono_l k
    refine ⟨?_, ?_⟩
    · intro y0 y1 y2
      unfold muslinlaw20_PlainJoined.j0
      repeat' first
      | (with_reducible exact ih0 _ _ _)
      | (with_reducible exact ih1 _ _ _)
      | (with_reducible exact muslinlaw20_live.mono _)
      | (with_reducible exact muslinref06_Cut.mono _ _)
      | (with_reducible exact muslinref14_Same.mono _ _ _)
      | (with_reducible exact plain_Level.mono _ _)
      | (with_reducible exact plain_Tree.mono _ _)
      | (with_reducible exact LeO.refl _)
      | (with_reducible exact LeO.none _)
      | (with_reducible refine LeO.ite ?_ ?_)
      | (with_reducible refine LeO.bind ?_ (fun _ => ?_))
      | exact ih0 _ _ _
      | exact ih1 _ _ _
      | exact muslinlaw20_live.mono _
      | exact muslinref06_Cut.mono _ _
      | exact muslinref14_Same.mono _ _ _
      | exact plain_Level.mono _ _
      | exact plain_Tree.mono _ _
      | exact LeO.none _
      | refine LeO.ite ?_ ?_
      | refine LeO.bind ?_ (fun _ => ?_)
    · intro y0 y1 y2
      unfold muslinlaw20_PlainJoined.j1
      repeat' first
      | (with_reducible exact ih0 _ _ _)
      | (with_reducible exact ih1 _ _ _)
      | (with_reducible exact muslinlaw20_live.mono _)
      | (with_reducible exact muslinref06_Cut.mono _ _)
      | (with_reducible exact muslinref14_Same.mono _ _ _)
      | (with_reducible exact plain_Level.mono _ _)
      | (with_reducible exact plain_Tree.mono _ _)
      | (with_reducible exact LeO.refl _)
      | (with_reducible exact LeO.none _)
      | (with_reducible refine LeO.ite ?_ ?_)
      | (with_reducible refine LeO.bind ?_ (fun _ => ?_))
      | exact ih0 _ _ _
      | exact ih1 _ _ _
      | exact muslinlaw20_live.mono _
      | exact muslinref06_Cut.mono _ _
      | exact muslinref14_Same.mono _ _ _
      | exact plain_Level.mono _ _
      | exact plain_Tree.mono _ _
      | exact LeO.none _
      | refine LeO.ite ?_ ?_
      | refine LeO.bind ?_ (fun _ => ?_)
theorem muslinlaw20_PlainJoined.mono : ∀ a0 a1 k, LeO (muslinlaw20_PlainJoined.f k a0 a1) (muslinlaw20_PlainJoined.f (k + 1) a0 a1) := by
  intro a0 a1 k
  obtain ⟨ih0, ih1⟩ := muslinlaw20_PlainJoined.mono_l k
  unfold muslinlaw20_PlainJoined.f
  repeat' first
      | (with_reducible exact ih0 _ _ _)
      | (with_reducible exact ih1 _ _ _)
      | (with_reducible exact muslinlaw20_live.mono _)
      | (with_reducible exact muslinref06_Cut.mono _ _)
      | (with_reducible exact muslinref14_Same.mono _ _ _)
      | (with_reducible exact plain_Level.mono _ _)
      | (with_reducible exact plain_Tree.mono _ _)
      | (with_reducible exact LeO.refl _)
      | (with_reducible exact LeO.none _)
      | (with_reducible refine LeO.ite ?_ ?_)
      | (with_reducible refine LeO.bind ?_ (fun _ => ?_))
      | exact ih0 _ _ _
      | exact ih1 _ _ _
      | exact muslinlaw20_live.mono _
      | exact muslinref06_Cut.mono _ _
      | exact muslinref14_Same.mono _ _ _
      | exact plain_Level.mono _ _
      | exact plain_Tree.mono _ _
      | exact LeO.none _
      | refine LeO.ite ?_ ?_
      | refine LeO.bind ?_ (fun _ => ?_)
set_option maxHeartbeats 8000000 in
set_option maxRecDepth 100000 in
theorem muslinlaw20_PlainJoined.calls (k : Nat) (a0 : ByteArray) (a1 : ByteArray) (r : Bool) (w : World) (h : muslinlaw20_PlainJoined.f k a0 a1 = some r) :
    Calls Try.prog 8 #[.string a0, .string a1] w fun e w' => e = .returned (.bool r) ∧ Below w.heap.size w w' := by
  have hu36 := Try.underlying36
  have HB := Aside0.mk (Below.refl w.heap.size w)
  have H : (if (a0.size : Int) > 1000 then (muslinlaw20_PlainJoined.j0 k a0 a1 true) else (if (a1.size : Int) > 1000 then (muslinlaw20_PlainJoined.j0 k a0 a1 true) else (if a0.toList = ([] : List UInt8) then (muslinlaw20_PlainJoined.j0 k a0 a1 true) else (muslinlaw20_PlainJoined.j0 k a0 a1 (a1.toList == ([] : List UInt8)))))) = some r := h
  clear h
  have HC3 := Aside0.mk H
  clear H
  go_enter Try.func8, Try.ntmps8
  go_upto_region 1 with (fail)
  go_cut [27] (fun v27 wc => ∃ (kq : Nat) (x27_2 : Bool), v27 = .bool x27_2 ∧ Aside0 (muslinlaw20_PlainJoined.j0 kq a0 a1 x27_2 = some r) ∧ Aside0 (kq ≤ k) ∧ Aside0 (Below w.heap.size w wc))
  case first =>
    have H := HC3.out
    clear HC3
    by_cases c4 : (a0.size : Int) > 1000
    · rw [if_pos c4] at H
      have c4b0 : decide (1000 < (a0.size : Int)) = true := decide_eq_true c4
      have c4b1 : decide (1000 < a0.size) = true := decide_eq_true (by omega)
      clear c4
      (first | rw [c4b0] | (simp only [i64_w, i32_w]; rw [c4b0]) | skip)
      have H' := Aside0.mk H
      clear H
      go_wp2
      go_meet
      case rel => exact ⟨_, (true), (by first | rfl | (simp; done) | (simp [*]; done)), H', ⟨by first | omega | exact Nat.le_refl _⟩, ⟨by repeat (first | (with_reducible first | exact HB.out | apply below_alloc | apply pw_below_drewN | apply below_drew1) | exact HB.out)⟩⟩
    · rw [if_neg c4] at H
      have c4b0 : decide (1000 < (a0.size : Int)) = false := decide_eq_false c4
      have c4b1 : decide (1000 < a0.size) = false := decide_eq_false (by omega)
      clear c4
      (first | rw [c4b0] | (simp only [i64_w, i32_w]; rw [c4b0]) | skip)
      by_cases c5 : (a1.size : Int) > 1000
      · rw [if_pos c5] at H
        have c5b0 : decide (1000 < (a1.size : Int)) = true := decide_eq_true c5
        have c5b1 : decide (1000 < a1.size) = true := decide_eq_true (by omega)
        clear c5
        have H' := Aside0.mk H
        clear H
        go_wp2
        go_meet
        case rel => exact ⟨_, (true), (by first | rfl | (simp; done) | (simp [*]; done)), H', ⟨by first | omega | exact Nat.le_refl _⟩, ⟨by repeat (first | (with_reducible first | exact HB.out | apply below_alloc | apply pw_below_drewN | apply below_drew1) | exact HB.out)⟩⟩
      · rw [if_neg c5] at H
        have c5b0 : decide (1000 < (a1.size : Int)) = false := decide_eq_false c5
        have c5b1 : decide (1000 < a1.size) = false := decide_eq_false (by omega)
        clear c5
        by_cases c6 : a0.toList = ([] : List UInt8)
        · rw [if_pos c6] at H
          have c6b0 : (a0.toList == ([] : List UInt8)) = true := beq_iff_eq.mpr c6
          have c6b1 : (a0.toList != ([] : List UInt8)) = false := bne_eq_false_iff_eq.mpr c6
          clear c6
          have H' := Aside0.mk H
          clear H
          go_wp2
          go_meet
          case rel => exact ⟨_, (true), (by first | rfl | (simp; done) | (simp [*]; done)), H', ⟨by first | omega | exact Nat.le_refl _⟩, ⟨by repeat (first | (with_reducible first | exact HB.out | apply below_alloc | apply pw_below_drewN | apply below_drew1) | exact HB.out)⟩⟩
        · rw [if_neg c6] at H
          have c6b0 : (a0.toList == ([] : List UInt8)) = false := beq_eq_false_iff_ne.mpr c6
          have c6b1 : (a0.toList != ([] : List UInt8)) = true := bne_iff_ne.mpr c6
          have H' := Aside0.mk H
          clear H
          go_wp2
          go_meet
          case rel => exact ⟨_, ((a1.toList == ([] : List UInt8))), (by first | rfl | (simp; done) | (simp [*]; done)), H', ⟨by first | omega | exact Nat.le_refl _⟩, ⟨by repeat (first | (with_reducible first | exact HB.out | apply below_alloc | apply pw_below_drewN | apply below_drew1) | exact HB.out)⟩⟩
  case rest =>
    clear HC3
    try clear p2
    try clear c4
    try clear c4b0
    try clear c4b1
    try clear c5
    try clear c5b0
    try clear c5b1
    try clear c6
    try clear c6b0
    try clear c6b1
    obtain ⟨kq, x27_2, rfl, HA, HJ2, HB⟩ := hcut
    cases kq with
    | zero => exact absurd HA.out (by simp [muslinlaw20_PlainJoined.j0])
    | succ kj2 =>
      have H := HA.out
      clear HA
      simp only [muslinlaw20_PlainJoined.j0] at H
      by_cases c7 : x27_2 = true
      · subst c7
        have H1 : ((muslinlaw20_live.f kj2).bind fun t285 => (some t285)) = some r := by rw [if_pos rfl] at H; exact H
        clear H
        have H := H1
        clear H1
        replace H := Option.bind_eq_some_iff.mp H
        obtain ⟨t285, A80, H⟩ := H
        replace H : (some t285) = some r := H
        have A8 := Aside0.mk A80
        clear A80
        obtain rfl := Option.some.inj H
        go_wp2_with (first | ((with_reducible refine gate_callee (f := 9) rfl ?_); refine goesL_ (some 28) rfl rfl Try.func9 (by kernel_rfl) rfl #[] rfl (by (try simp only [List.map_toArray, List.map_cons, List.map_nil]); first | done | rfl | (simp only [List.length_drop, List.length_take]; rfl)) ?_; (with_reducible refine (muslinlaw20_live.calls kj2  t285 _ A8.out).mono ?_); rintro e w9 ⟨rfl, hb⟩; refine ⟨_, rfl, ?_⟩; have n0_ := Aside0.mk (below_step (by repeat (first | (with_reducible first | exact HB.out | apply below_alloc | apply pw_below_drewN | apply below_drew1) | exact HB.out)) hb); clear HB; have HB := n0_; clear n0_; (try clear hb); (try clear hb2); (try clear hk); (try clear hi)))
        go_ret
        exact ⟨by first | rfl | (simp [errW_none, errW_some] <;> rfl) | (simp [*, errW_none, errW_some] <;> rfl), by repeat (first | (with_reducible first | exact HB.out | apply below_alloc | apply pw_below_drewN | apply below_drew1) | exact HB.out)⟩
      · replace c7 := Bool.eq_false_iff.mpr c7
        subst c7
        have H1 : ((muslinref06_Cut.f kj2 a0).bind fun t286 => ((muslinref06_Cut.f kj2 a1).bind fun t289 => (if 0 ≤ (wrap64 ((t286.length : Int) - 1)) then (if (wrap64 ((t286.length : Int) - 1)) < (t286.length : Int) then ((plain_Level.f kj2 (rdOf ByteArray.empty t286 (wrap64 ((t286.length : Int) - 1)))).bind fun bt293 => (if 0 < (t289.length : Int) then ((plain_Level.f kj2 (rdOf ByteArray.empty t289 0)).bind fun bt296 => (if bt293.1 > 0 then (muslinlaw20_PlainJoined.j1 kj2 a0 a1 true) else (if bt296.1 > 0 then (muslinlaw20_PlainJoined.j1 kj2 a0 a1 true) else (if 0 ≤ (wrap64 ((a0.size : Int) - 1)) then (if (wrap64 ((a0.size : Int) - 1)) < (a0.size : Int) then (if (bt a0 (wrap64 ((a0.size : Int) - 1))) = 10 then (muslinlaw20_PlainJoined.j1 kj2 a0 a1 true) else (muslinlaw20_PlainJoined.j1 kj2 a0 a1 ((bt a0 (wrap64 ((a0.size : Int) - 1))) == 13))) else (none)) else (none))))) else (none))) else (none)) else (none)))) = some r := by rw [if_neg (show ¬ (false = true) by decide)] at H; exact H
        clear H
        have H := H1
        clear H1
        replace H := Option.bind_eq_some_iff.mp H
        obtain ⟨t286, A100, H⟩ := H
        replace H : ((muslinref06_Cut.f kj2 a1).bind fun t289 => (if 0 ≤ (wrap64 ((t286.length : Int) - 1)) then (if (wrap64 ((t286.length : Int) - 1)) < (t286.length : Int) then ((plain_Level.f kj2 (rdOf ByteArray.empty t286 (wrap64 ((t286.length : Int) - 1)))).bind fun bt293 => (if 0 < (t289.length : Int) then ((plain_Level.f kj2 (rdOf ByteArray.empty t289 0)).bind fun bt296 => (if bt293.1 > 0 then (muslinlaw20_PlainJoined.j1 kj2 a0 a1 true) else (if bt296.1 > 0 then (muslinlaw20_PlainJoined.j1 kj2 a0 a1 true) else (if 0 ≤ (wrap64 ((a0.size : Int) - 1)) then (if (wrap64 ((a0.size : Int) - 1)) < (a0.size : Int) then (if (bt a0 (wrap64 ((a0.size : Int) - 1))) = 10 then (muslinlaw20_PlainJoined.j1 kj2 a0 a1 true) else (muslinlaw20_PlainJoined.j1 kj2 a0 a1 ((bt a0 (wrap64 ((a0.size : Int) - 1))) == 13))) else (none)) else (none))))) else (none))) else (none)) else (none))) = some r := H
        have A10 := Aside0.mk A100
        clear A100
        replace H := Option.bind_eq_some_iff.mp H
        obtain ⟨t289, A110, H⟩ := H
        replace H : (if 0 ≤ (wrap64 ((t286.length : Int) - 1)) then (if (wrap64 ((t286.length : Int) - 1)) < (t286.length : Int) then ((plain_Level.f kj2 (rdOf ByteArray.empty t286 (wrap64 ((t286.length : Int) - 1)))).bind fun bt293 => (if 0 < (t289.length : Int) then ((plain_Level.f kj2 (rdOf ByteArray.empty t289 0)).bind fun bt296 => (if bt293.1 > 0 then (muslinlaw20_PlainJoined.j1 kj2 a0 a1 true) else (if bt296.1 > 0 then (muslinlaw20_PlainJoined.j1 kj2 a0 a1 true) else (if 0 ≤ (wrap64 ((a0.size : Int) - 1)) then (if (wrap64 ((a0.size : Int) - 1)) < (a0.size : Int) then (if (bt a0 (wrap64 ((a0.size : Int) - 1))) = 10 then (muslinlaw20_PlainJoined.j1 kj2 a0 a1 true) else (muslinlaw20_PlainJoined.j1 kj2 a0 a1 ((bt a0 (wrap64 ((a0.size : Int) - 1))) == 13))) else (none)) else (none))))) else (none))) else (none)) else (none)) = some r := H
        have A11 := Aside0.mk A110
        clear A110
        obtain ⟨ji12, hji12⟩ : ∃ j_ : Int, (wrap64 ((t286.length : Int) - 1)) = j_ := ⟨_, rfl⟩
        replace H : (if 0 ≤ (ji12) then (if (ji12) < (t286.length : Int) then ((plain_Level.f kj2 (rdOf ByteArray.empty t286 (ji12))).bind fun bt293 => (if 0 < (t289.length : Int) then ((plain_Level.f kj2 (rdOf ByteArray.empty t289 0)).bind fun bt296 => (if bt293.1 > 0 then (muslinlaw20_PlainJoined.j1 kj2 a0 a1 true) else (if bt296.1 > 0 then (muslinlaw20_PlainJoined.j1 kj2 a0 a1 true) else (if 0 ≤ (wrap64 ((a0.size : Int) - 1)) then (if (wrap64 ((a0.size : Int) - 1)) < (a0.size : Int) then (if (bt a0 (wrap64 ((a0.size : Int) - 1))) = 10 then (muslinlaw20_PlainJoined.j1 kj2 a0 a1 true) else (muslinlaw20_PlainJoined.j1 kj2 a0 a1 ((bt a0 (wrap64 ((a0.size : Int) - 1))) == 13))) else (none)) else (none))))) else (none))) else (none)) else (none)) = some r := by first | (rw [hji12] at H; exact H) | (simp only [hji12] at H ⊢; exact H)
        (try rw [hji12] at A10)
        (try rw [hji12] at A11)
        have hji12w : (IntKind.i64.wrap ((t286.length : Int) - 1)) = ji12 := (i64_w _).trans hji12
        by_cases c13 : 0 ≤ (ji12)
        · rw [if_pos c13] at H
          have c13b0 : decide (0 ≤ (ji12)) = true := decide_eq_true c13
          clear c13
          by_cases c14 : (ji12) < (t286.length : Int)
          · rw [if_pos c14] at H
            have c14b0 : decide ((ji12) < (t286.length : Int)) = true := decide_eq_true c14
            clear c14
            replace H := Option.bind_eq_some_iff.mp H
            obtain ⟨⟨t293, t294⟩, A150, H⟩ := H
            replace H : (if 0 < (t289.length : Int) then ((plain_Level.f kj2 (rdOf ByteArray.empty t289 0)).bind fun bt296 => (if t293 > 0 then (muslinlaw20_PlainJoined.j1 kj2 a0 a1 true) else (if bt296.1 > 0 then (muslinlaw20_PlainJoined.j1 kj2 a0 a1 true) else (if 0 ≤ (wrap64 ((a0.size : Int) - 1)) then (if (wrap64 ((a0.size : Int) - 1)) < (a0.size : Int) then (if (bt a0 (wrap64 ((a0.size : Int) - 1))) = 10 then (muslinlaw20_PlainJoined.j1 kj2 a0 a1 true) else (muslinlaw20_PlainJoined.j1 kj2 a0 a1 ((bt a0 (wrap64 ((a0.size : Int) - 1))) == 13))) else (none)) else (none))))) else (none)) = some r := H
            have A15 := Aside0.mk A150
            clear A150
            by_cases c16 : 0 < (t289.length : Int)
            · rw [if_pos c16] at H
              have c16b0 : decide (0 < (t289.length : Int)) = true := decide_eq_true c16
              have c16b1 : decide (0 < t289.length) = true := decide_eq_true (by omega)
              clear c16
              replace H := Option.bind_eq_some_iff.mp H
              obtain ⟨⟨t296, t297⟩, A170, H⟩ := H
              replace H : (if t293 > 0 then (muslinlaw20_PlainJoined.j1 kj2 a0 a1 true) else (if t296 > 0 then (muslinlaw20_PlainJoined.j1 kj2 a0 a1 true) else (if 0 ≤ (wrap64 ((a0.size : Int) - 1)) then (if (wrap64 ((a0.size : Int) - 1)) < (a0.size : Int) then (if (bt a0 (wrap64 ((a0.size : Int) - 1))) = 10 then (muslinlaw20_PlainJoined.j1 kj2 a0 a1 true) else (muslinlaw20_PlainJoined.j1 kj2 a0 a1 ((bt a0 (wrap64 ((a0.size : Int) - 1))) == 13))) else (none)) else (none)))) = some r := H
              have A17 := Aside0.mk A170
              clear A170
              have HC18 := Aside0.mk H
              clear H
              go_upto_region 7 with (first | ((with_reducible refine gate_callee (f := 18) rfl ?_); refine goesL_ (some 30) rfl rfl Try.func18 (by kernel_rfl) rfl #[.string a0] rfl (by (try simp only [List.map_toArray, List.map_cons, List.map_nil]); first | done | rfl | (simp only [List.length_drop, List.length_take]; rfl)) ?_; (with_reducible refine (muslinref06_Cut.calls kj2 a0 t286 _ A10.out).mono ?_); rintro e w19 ⟨v287, rfl, ho0, hb⟩; refine ⟨_, rfl, ?_⟩; have n0_ := Aside0.mk (Kd.R_lower ho0 (below_size (by repeat (first | (with_reducible first | exact HB.out | apply below_alloc | apply pw_below_drewN | apply below_drew1) | exact HB.out)))); have n1_ := Aside0.mk (below_step (by repeat (first | (with_reducible first | exact HB.out | apply below_alloc | apply pw_below_drewN | apply below_drew1) | exact HB.out)) hb); clear HB; have HO288 := n0_; have HB := n1_; clear n0_ n1_; (try clear hb); (try clear hb2); (try clear hk); (try clear hi); (try clear ho0)) | ((with_reducible refine gate_callee (f := 18) rfl ?_); refine goesL_ (some 32) rfl rfl Try.func18 (by kernel_rfl) rfl #[.string a1] rfl (by (try simp only [List.map_toArray, List.map_cons, List.map_nil]); first | done | rfl | (simp only [List.length_drop, List.length_take]; rfl)) ?_; (with_reducible refine (muslinref06_Cut.calls kj2 a1 t289 _ A11.out).mono ?_); rintro e w20 ⟨v290, rfl, ho0, hb⟩; refine ⟨_, rfl, ?_⟩; have n0_ := Aside0.mk (Kd.R_elder' (by (with_reducible repeat (first | apply Kd.R_alloc | apply Kd.R_drewN | apply Kd.R_drew)); exact HO288.out) (Kd.R_base ho0) hb); have n1_ := Aside0.mk (Kd.R_lower (Kd.R_new' ho0 (Kd.R_lt (by (with_reducible repeat (first | apply Kd.R_alloc | apply Kd.R_drewN | apply Kd.R_drew)); exact HO288.out))) (below_size (by repeat (first | (with_reducible first | exact HB.out | apply below_alloc | apply pw_below_drewN | apply below_drew1) | exact HB.out)))); have n2_ := Aside0.mk (below_step (by repeat (first | (with_reducible first | exact HB.out | apply below_alloc | apply pw_below_drewN | apply below_drew1) | exact HB.out)) hb); clear HO288; clear HB; have HO288 := n0_; have HO291 := n1_; have HB := n2_; clear n0_ n1_ n2_; (try clear hb); (try clear hb2); (try clear hk); (try clear hi); (try clear ho0); obtain ⟨Ao21, co21, eo21⟩ := Kd.R_slice HO288.out; subst eo21; have p292 : 0 ≤ ((ji12) : Int) := of_decide_eq_true (by first | (with_reducible assumption) | assumption); have q292 : (ji12) < (t286.length : Int) := of_decide_eq_true (by first | (with_reducible assumption) | assumption); obtain ⟨ad292, e292, hx292_0⟩ := Kd.at_string (Kd.R_reads' HO288.out).2.2 (ji12) p292 q292; cases e292; replace p292 := eq_true p292; replace q292 := eq_true q292) | ((with_reducible refine gate_callee (f := 10) rfl ?_); refine goesL_ (some 40) rfl rfl Try.func10 (by kernel_rfl) rfl #[.string (rdOf ByteArray.empty t286 (ji12))] rfl (by (try simp only [List.map_toArray, List.map_cons, List.map_nil]); first | done | (simp only [hji12]; rfl) | rfl | (simp only [List.length_drop, List.length_take]; rfl)) ?_; (with_reducible refine (plain_Level.calls kj2 (rdOf ByteArray.empty t286 (ji12)) t293 t294 _ A15.out).mono ?_); rintro e w' ⟨rfl, ⟨nd, rfl⟩⟩; refine ⟨_, rfl, ?_⟩; obtain ⟨Ao22, co22, eo22⟩ := Kd.R_slice HO291.out; subst eo22; have p295 : 0 ≤ (0 : Int) := (by omega); have q295 : 0 < (t289.length : Int) := of_decide_eq_true (by first | (with_reducible assumption) | assumption); obtain ⟨ad295, e295, hx295_0⟩ := Kd.at_string (Kd.R_reads' HO291.out).2.2 0 p295 q295; cases e295; have qi295 : (0 < t289.length) = True := eq_true (by omega); (try rw [show ((0 : Int)).toNat = 0 from rfl] at hx295_0); (try rw [Addr.add_zero'] at hx295_0); replace p295 := eq_true p295; replace q295 := eq_true q295) | ((with_reducible refine gate_callee (f := 10) rfl ?_); refine goesL_ (some 47) rfl rfl Try.func10 (by kernel_rfl) rfl #[.string (rdOf ByteArray.empty t289 0)] rfl (by (try simp only [List.map_toArray, List.map_cons, List.map_nil]); first | done | rfl | (simp only [List.length_drop, List.length_take]; rfl)) ?_; (with_reducible refine (plain_Level.calls kj2 (rdOf ByteArray.empty t289 0) t296 t297 _ A17.out).mono ?_); rintro e w' ⟨rfl, ⟨nd, rfl⟩⟩; refine ⟨_, rfl, ?_⟩))
              (try simp only [Act.put, List.setIfInBounds_toArray, List.set_cons_zero, List.set_cons_succ])
              go_cut [71] (fun v71 wc => ∃ (kq : Nat) (x71_17 : Bool), v71 = .bool x71_17 ∧ Aside0 (muslinlaw20_PlainJoined.j1 kq a0 a1 x71_17 = some r) ∧ Aside0 (kq ≤ kj2) ∧ Aside0 (Below w.heap.size w wc))
              case first =>
                have H := HC18.out
                clear HC18
                by_cases c23 : t293 > 0
                · rw [if_pos c23] at H
                  have c23b0 : decide (0 < t293) = true := decide_eq_true c23
                  clear c23
                  (first | rw [c23b0] | (simp only [i64_w, i32_w]; rw [c23b0]) | skip)
                  have H' := Aside0.mk H
                  clear H
                  go_wp2
                  go_meet
                  case rel => exact ⟨_, (true), (by first | rfl | (simp; done) | (simp [*]; done)), H', ⟨by have := HJ2.out; first | omega | exact Nat.le_refl _⟩, ⟨by repeat (first | (with_reducible first | exact HB.out | apply below_alloc | apply pw_below_drewN | apply below_drew1) | exact HB.out)⟩⟩
                · rw [if_neg c23] at H
                  have c23b0 : decide (0 < t293) = false := decide_eq_false c23
                  clear c23
                  (first | rw [c23b0] | (simp only [i64_w, i32_w]; rw [c23b0]) | skip)
                  by_cases c24 : t296 > 0
                  · rw [if_pos c24] at H
                    have c24b0 : decide (0 < t296) = true := decide_eq_true c24
                    clear c24
                    have H' := Aside0.mk H
                    clear H
                    go_wp2
                    go_meet
                    case rel => exact ⟨_, (true), (by first | rfl | (simp; done) | (simp [*]; done)), H', ⟨by have := HJ2.out; first | omega | exact Nat.le_refl _⟩, ⟨by repeat (first | (with_reducible first | exact HB.out | apply below_alloc | apply pw_below_drewN | apply below_drew1) | exact HB.out)⟩⟩
                  · rw [if_neg c24] at H
                    have c24b0 : decide (0 < t296) = false := decide_eq_false c24
                    clear c24
                    obtain ⟨ji25, hji25⟩ : ∃ j_ : Int, (wrap64 ((a0.size : Int) - 1)) = j_ := ⟨_, rfl⟩
                    replace H : (if 0 ≤ (ji25) then (if (ji25) < (a0.size : Int) then (if (bt a0 (ji25)) = 10 then (muslinlaw20_PlainJoined.j1 kj2 a0 a1 true) else (muslinlaw20_PlainJoined.j1 kj2 a0 a1 ((bt a0 (ji25)) == 13))) else (none)) else (none)) = some r := by first | (rw [hji25] at H; exact H) | (simp only [hji25] at H ⊢; exact H)
                    have hji25w : (IntKind.i64.wrap ((a0.size : Int) - 1)) = ji25 := (i64_w _).trans hji25
                    by_cases c26 : 0 ≤ (ji25)
                    · rw [if_pos c26] at H
                      have c26b0 : decide (0 ≤ (ji25)) = true := decide_eq_true c26
                      clear c26
                      by_cases c27 : (ji25) < (a0.size : Int)
                      · rw [if_pos c27] at H
                        have c27b0 : decide ((ji25) < (a0.size : Int)) = true := decide_eq_true c27
                        clear c27
                        by_cases c29 : (bt a0 (ji25)) = 10
                        · rw [if_pos c29] at H
                          have c29b0 : ((bt a0 (ji25)) == 10) = true := beq_iff_eq.mpr c29
                          have c29b1 : ((bt a0 (ji25)) != 10) = false := bne_eq_false_iff_eq.mpr c29
                          clear c29
                          have H' := Aside0.mk H
                          clear H
                          have p28 : 0 ≤ ((ji25) : Int) := of_decide_eq_true (by first | (with_reducible assumption) | assumption)
                          have q28 : (ji25) < (a0.size : Int) := of_decide_eq_true (by first | (with_reducible assumption) | assumption)
                          have hx28 := bt_at a0 (ji25)
                          replace p28 := eq_true p28
                          replace q28 := eq_true q28
                          go_wp2
                          go_meet
                          case rel => exact ⟨_, (true), (by first | rfl | (simp; done) | (simp [*]; done)), H', ⟨by have := HJ2.out; first | omega | exact Nat.le_refl _⟩, ⟨by repeat (first | (with_reducible first | exact HB.out | apply below_alloc | apply pw_below_drewN | apply below_drew1) | exact HB.out)⟩⟩
                        · rw [if_neg c29] at H
                          have c29b0 : ((bt a0 (ji25)) == 10) = false := beq_eq_false_iff_ne.mpr c29
                          have c29b1 : ((bt a0 (ji25)) != 10) = true := bne_iff_ne.mpr c29
                          have H' := Aside0.mk H
                          clear H
                          have p28 : 0 ≤ ((ji25) : Int) := of_decide_eq_true (by first | (with_reducible assumption) | assumption)
                          have q28 : (ji25) < (a0.size : Int) := of_decide_eq_true (by first | (with_reducible assumption) | assumption)
                          have hx28 := bt_at a0 (ji25)
                          replace p28 := eq_true p28
                          replace q28 := eq_true q28
                          have p30 : 0 ≤ ((ji25) : Int) := of_decide_eq_true (by first | (with_reducible assumption) | assumption)
                          have q30 : (ji25) < (a0.size : Int) := of_decide_eq_true (by first | (with_reducible assumption) | assumption)
                          have hx30 := bt_at a0 (ji25)
                          replace p30 := eq_true p30
                          replace q30 := eq_true q30
                          go_wp2
                          go_meet
                          case rel => exact ⟨_, (((bt a0 (ji25)) == 13)), (by first | rfl | (simp; done) | (simp only [← hji25] <;> (first | rfl | simp)) | (simp [*]; done)), H', ⟨by have := HJ2.out; first | omega | exact Nat.le_refl _⟩, ⟨by repeat (first | (with_reducible first | exact HB.out | apply below_alloc | apply pw_below_drewN | apply below_drew1) | exact HB.out)⟩⟩
                      · rw [if_neg c27] at H
                        exact absurd H (by simp)
                    · rw [if_neg c26] at H
                      exact absurd H (by simp)
              case rest =>
                clear HC18
                try clear c1
                try clear c2
                try clear p2
                try clear q2
                try clear hx2
                try clear qi2
                try clear p3
                try clear q3
                try clear hx3
                try clear c4
                try clear c4b0
                try clear c4b1
                try clear c5
                try clear c5b0
                try clear c5b1
                try clear c6
                try clear c6b0
                try clear c6b1
                try clear p6
                try clear c7
                try clear c8
                try clear c9
                try clear c10
                try clear c13
                try clear c13b0
                try clear c14
                try clear c14b0
                try clear c16
                try clear c16b0
                try clear c16b1
                try clear c18
                try clear c23
                try clear c23b0
                try clear c24
                try clear c24b0
                try clear c26
                try clear c26b0
                try clear c27
                try clear c27b0
                try clear p28
                try clear q28
                try clear hx28
                try clear c29
                try clear c29b0
                try clear c29b1
                try clear p29
                try clear q29
                try clear hx29
                try clear qi29
                try clear p30
                try clear q30
                try clear hx30
                try clear hx292_0
                try clear hx295_0
                try clear p2
                try clear p28
                try clear p292
                try clear p295
                try clear p30
                try clear q28
                try clear q292
                try clear q295
                try clear q30
                obtain ⟨kq, x71_17, rfl, HA, HJ17, HB⟩ := hcut
                cases kq with
                | zero => exact absurd HA.out (by simp [muslinlaw20_PlainJoined.j1])
                | succ kj17 =>
                  have H := HA.out
                  clear HA
                  simp only [muslinlaw20_PlainJoined.j1] at H
                  by_cases c31 : x71_17 = true
                  · subst c31
                    have H1 : ((muslinlaw20_live.f kj17).bind fun t298 => (some t298)) = some r := by rw [if_pos rfl] at H; exact H
                    clear H
                    have H := H1
                    clear H1
                    replace H := Option.bind_eq_some_iff.mp H
                    obtain ⟨t298, A320, H⟩ := H
                    replace H : (some t298) = some r := H
                    have A32 := Aside0.mk A320
                    clear A320
                    obtain rfl := Option.some.inj H
                    go_wp2_with (first | ((with_reducible refine gate_callee (f := 9) rfl ?_); refine goesL_ (some 72) rfl rfl Try.func9 (by kernel_rfl) rfl #[] rfl (by (try simp only [List.map_toArray, List.map_cons, List.map_nil]); first | done | rfl | (simp only [List.length_drop, List.length_take]; rfl)) ?_; (with_reducible refine (muslinlaw20_live.calls kj17  t298 _ A32.out).mono ?_); rintro e w33 ⟨rfl, hb⟩; refine ⟨_, rfl, ?_⟩; have n0_ := Aside0.mk (below_step (by repeat (first | (with_reducible first | exact HB.out | apply below_alloc | apply pw_below_drewN | apply below_drew1) | exact HB.out)) hb); clear HB; have HB := n0_; clear n0_; (try clear hb); (try clear hb2); (try clear hk); (try clear hi)))
                    go_ret
                    exact ⟨by first | rfl | (simp [errW_none, errW_some] <;> rfl) | (simp only [← hji12]; first | rfl | (simp [errW_none, errW_some] <;> rfl)) | (simp [*, errW_none, errW_some] <;> rfl), by repeat (first | (with_reducible first | exact HB.out | apply below_alloc | apply pw_below_drewN | apply below_drew1) | exact HB.out)⟩
                  · replace c31 := Bool.eq_false_iff.mpr c31
                    subst c31
                    have H1 : ((plain_Tree.f kj17 a0).bind fun t299 => (if ([] : List (S36)).length + t299.length < 1759218604441 then ((some (([] : List (S36)) ++ t299 : List (S36))).bind fun y302 => (if y302.length < 1759218604441 then ((some (y302 ++ [(⟨(⟨#[98, 114]⟩ : ByteArray), ([] : List (S51)), (⟨#[]⟩ : ByteArray), ([] : List (S36))⟩ : S36)] : List (S36))).bind fun y305 => (if y305.length < 1759218604441 then ((some (y305 ++ [(⟨(⟨#[98, 114]⟩ : ByteArray), ([] : List (S51)), (⟨#[]⟩ : ByteArray), ([] : List (S36))⟩ : S36)] : List (S36))).bind fun y308 => ((plain_Tree.f kj17 a1).bind fun t311 => (if y308.length + t311.length < 1759218604441 then (if a0.size + 2 ≤ 9223372036854775807 then (if (a0 ++ (⟨#[10, 10]⟩ : ByteArray)).size + a1.size ≤ 9223372036854775807 then ((plain_Tree.f kj17 ((a0 ++ (⟨#[10, 10]⟩ : ByteArray)) ++ a1)).bind fun t317 => ((muslinref14_Same.f kj17 t317 (y308 ++ t311)).bind fun t320 => (if t320 = true then ((muslinlaw20_live.f kj17).bind fun t321 => (some t321)) else (some false)))) else (none)) else (none)) else (none)))) else (none))) else (none))) else (none))) = some r := by rw [if_neg (show ¬ (false = true) by decide)] at H; exact H
                    clear H
                    have H := H1
                    clear H1
                    replace H := Option.bind_eq_some_iff.mp H
                    obtain ⟨t299, A340, H⟩ := H
                    replace H : (if ([] : List (S36)).length + t299.length < 1759218604441 then ((some (([] : List (S36)) ++ t299 : List (S36))).bind fun y302 => (if y302.length < 1759218604441 then ((some (y302 ++ [(⟨(⟨#[98, 114]⟩ : ByteArray), ([] : List (S51)), (⟨#[]⟩ : ByteArray), ([] : List (S36))⟩ : S36)] : List (S36))).bind fun y305 => (if y305.length < 1759218604441 then ((some (y305 ++ [(⟨(⟨#[98, 114]⟩ : ByteArray), ([] : List (S51)), (⟨#[]⟩ : ByteArray), ([] : List (S36))⟩ : S36)] : List (S36))).bind fun y308 => ((plain_Tree.f kj17 a1).bind fun t311 => (if y308.length + t311.length < 1759218604441 then (if a0.size + 2 ≤ 9223372036854775807 then (if (a0 ++ (⟨#[10, 10]⟩ : ByteArray)).size + a1.size ≤ 9223372036854775807 then ((plain_Tree.f kj17 ((a0 ++ (⟨#[10, 10]⟩ : ByteArray)) ++ a1)).bind fun t317 => ((muslinref14_Same.f kj17 t317 (y308 ++ t311)).bind fun t320 => (if t320 = true then ((muslinlaw20_live.f kj17).bind fun t321 => (some t321)) else (some false)))) else (none)) else (none)) else (none)))) else (none))) else (none))) else (none)) = some r := H
                    have A34 := Aside0.mk A340
                    clear A340
                    by_cases c35 : ([] : List (S36)).length + t299.length < 1759218604441
                    · rw [if_pos c35] at H
                      have LMc35 := Aside0.mk c35
                      clear c35
                      obtain ⟨y302, hy302⟩ : ∃ y_ : List (S36), y_ = (([] : List (S36)) ++ t299) := ⟨_, rfl⟩
                      replace H : (if y302.length < 1759218604441 then ((some (y302 ++ [(⟨(⟨#[98, 114]⟩ : ByteArray), ([] : List (S51)), (⟨#[]⟩ : ByteArray), ([] : List (S36))⟩ : S36)] : List (S36))).bind fun y305 => (if y305.length < 1759218604441 then ((some (y305 ++ [(⟨(⟨#[98, 114]⟩ : ByteArray), ([] : List (S51)), (⟨#[]⟩ : ByteArray), ([] : List (S36))⟩ : S36)] : List (S36))).bind fun y308 => ((plain_Tree.f kj17 a1).bind fun t311 => (if y308.length + t311.length < 1759218604441 then (if a0.size + 2 ≤ 9223372036854775807 then (if (a0 ++ (⟨#[10, 10]⟩ : ByteArray)).size + a1.size ≤ 9223372036854775807 then ((plain_Tree.f kj17 ((a0 ++ (⟨#[10, 10]⟩ : ByteArray)) ++ a1)).bind fun t317 => ((muslinref14_Same.f kj17 t317 (y308 ++ t311)).bind fun t320 => (if t320 = true then ((muslinlaw20_live.f kj17).bind fun t321 => (some t321)) else (some false)))) else (none)) else (none)) else (none)))) else (none))) else (none)) = some r := by first | (rw [hy302]; with_reducible exact H) | (have H2_ := (Option.bind_some _ _).symm.trans H; rw [hy302]; with_reducible exact H2_) | (have H2_ := (Option.bind_some _ _).symm.trans H; with_reducible exact H2_) | with_reducible exact H | (rw [hy302]; exact H) | exact H
                      have Ny302 := Aside0.mk hy302
                      clear hy302
                      by_cases c36 : y302.length < 1759218604441
                      · rw [if_pos c36] at H
                        have LMc36 := Aside0.mk c36
                        clear c36
                        obtain ⟨y305, hy305⟩ : ∃ y_ : List (S36), y_ = (y302 ++ [(⟨(⟨#[98, 114]⟩ : ByteArray), ([] : List (S51)), (⟨#[]⟩ : ByteArray), ([] : List (S36))⟩ : S36)]) := ⟨_, rfl⟩
                        replace H : (if y305.length < 1759218604441 then ((some (y305 ++ [(⟨(⟨#[98, 114]⟩ : ByteArray), ([] : List (S51)), (⟨#[]⟩ : ByteArray), ([] : List (S36))⟩ : S36)] : List (S36))).bind fun y308 => ((plain_Tree.f kj17 a1).bind fun t311 => (if y308.length + t311.length < 1759218604441 then (if a0.size + 2 ≤ 9223372036854775807 then (if (a0 ++ (⟨#[10, 10]⟩ : ByteArray)).size + a1.size ≤ 9223372036854775807 then ((plain_Tree.f kj17 ((a0 ++ (⟨#[10, 10]⟩ : ByteArray)) ++ a1)).bind fun t317 => ((muslinref14_Same.f kj17 t317 (y308 ++ t311)).bind fun t320 => (if t320 = true then ((muslinlaw20_live.f kj17).bind fun t321 => (some t321)) else (some false)))) else (none)) else (none)) else (none)))) else (none)) = some r := by first | (rw [hy305]; with_reducible exact H) | (have H2_ := (Option.bind_some _ _).symm.trans H; rw [hy305]; with_reducible exact H2_) | (have H2_ := (Option.bind_some _ _).symm.trans H; with_reducible exact H2_) | with_reducible exact H | (rw [hy305]; exact H) | exact H
                        have Ny305 := Aside0.mk hy305
                        clear hy305
                        by_cases c37 : y305.length < 1759218604441
                        · rw [if_pos c37] at H
                          have LMc37 := Aside0.mk c37
                          clear c37
                          obtain ⟨y308, hy308⟩ : ∃ y_ : List (S36), y_ = (y305 ++ [(⟨(⟨#[98, 114]⟩ : ByteArray), ([] : List (S51)), (⟨#[]⟩ : ByteArray), ([] : List (S36))⟩ : S36)]) := ⟨_, rfl⟩
                          replace H : ((plain_Tree.f kj17 a1).bind fun t311 => (if y308.length + t311.length < 1759218604441 then (if a0.size + 2 ≤ 9223372036854775807 then (if (a0 ++ (⟨#[10, 10]⟩ : ByteArray)).size + a1.size ≤ 9223372036854775807 then ((plain_Tree.f kj17 ((a0 ++ (⟨#[10, 10]⟩ : ByteArray)) ++ a1)).bind fun t317 => ((muslinref14_Same.f kj17 t317 (y308 ++ t311)).bind fun t320 => (if t320 = true then ((muslinlaw20_live.f kj17).bind fun t321 => (some t321)) else (some false)))) else (none)) else (none)) else (none))) = some r := by first | (rw [hy308]; with_reducible exact H) | (have H2_ := (Option.bind_some _ _).symm.trans H; rw [hy308]; with_reducible exact H2_) | (have H2_ := (Option.bind_some _ _).symm.trans H; with_reducible exact H2_) | with_reducible exact H | (rw [hy308]; exact H) | exact H
                          have Ny308 := Aside0.mk hy308
                          clear hy308
                          replace H := Option.bind_eq_some_iff.mp H
                          obtain ⟨t311, A380, H⟩ := H
                          replace H : (if y308.length + t311.length < 1759218604441 then (if a0.size + 2 ≤ 9223372036854775807 then (if (a0 ++ (⟨#[10, 10]⟩ : ByteArray)).size + a1.size ≤ 9223372036854775807 then ((plain_Tree.f kj17 ((a0 ++ (⟨#[10, 10]⟩ : ByteArray)) ++ a1)).bind fun t317 => ((muslinref14_Same.f kj17 t317 (y308 ++ t311)).bind fun t320 => (if t320 = true then ((muslinlaw20_live.f kj17).bind fun t321 => (some t321)) else (some false)))) else (none)) else (none)) else (none)) = some r := H
                          have A38 := Aside0.mk A380
                          clear A380
                          by_cases c39 : y308.length + t311.length < 1759218604441
                          · rw [if_pos c39] at H
                            have LMc39 := Aside0.mk c39
                            clear c39
                            obtain ⟨y314, hy314⟩ : ∃ y_ : List (S36), y_ = (y308 ++ t311) := ⟨_, rfl⟩
                            replace H : (if a0.size + 2 ≤ 9223372036854775807 then (if (a0 ++ (⟨#[10, 10]⟩ : ByteArray)).size + a1.size ≤ 9223372036854775807 then ((plain_Tree.f kj17 ((a0 ++ (⟨#[10, 10]⟩ : ByteArray)) ++ a1)).bind fun t317 => ((muslinref14_Same.f kj17 t317 y314).bind fun t320 => (if t320 = true then ((muslinlaw20_live.f kj17).bind fun t321 => (some t321)) else (some false)))) else (none)) else (none)) = some r := by first | (rw [hy314]; with_reducible exact H) | (have H2_ := (Option.bind_some _ _).symm.trans H; rw [hy314]; with_reducible exact H2_) | (have H2_ := (Option.bind_some _ _).symm.trans H; with_reducible exact H2_) | with_reducible exact H | (rw [hy314]; exact H) | exact H
                            have Ny314 := Aside0.mk hy314
                            clear hy314
                            by_cases c40 : a0.size + 2 ≤ 9223372036854775807
                            · rw [if_pos c40] at H
                              have c40b0 := eq_true c40
                              have c40b1 : decide (a0.size + 2 ≤ 9223372036854775807) = true := decide_eq_true c40
                              try have c40b2 : (9223372036854775807 < a0.size + 2) = False := eq_false (Nat.not_lt.2 c40)
                              by_cases c41 : (a0 ++ (⟨#[10, 10]⟩ : ByteArray)).size + a1.size ≤ 9223372036854775807
                              · rw [if_pos c41] at H
                                have c41b0 := eq_true c41
                                have c41b1 : decide ((a0 ++ (⟨#[10, 10]⟩ : ByteArray)).size + a1.size ≤ 9223372036854775807) = true := decide_eq_true c41
                                have c41n := c41
                                simp only [ByteArray.size_append, sz_2] at c41n
                                have c41nb := eq_true c41n
                                have c41nc := eq_false (Nat.not_lt.2 c41n)
                                try have c41b2 : (9223372036854775807 < (a0 ++ (⟨#[10, 10]⟩ : ByteArray)).size + a1.size) = False := eq_false (Nat.not_lt.2 c41)
                                replace H := Option.bind_eq_some_iff.mp H
                                obtain ⟨t317, A420, H⟩ := H
                                replace H : ((muslinref14_Same.f kj17 t317 y314).bind fun t320 => (if t320 = true then ((muslinlaw20_live.f kj17).bind fun t321 => (some t321)) else (some false))) = some r := H
                                have A42 := Aside0.mk A420
                                clear A420
                                replace H := Option.bind_eq_some_iff.mp H
                                obtain ⟨t320, A430, H⟩ := H
                                replace H : (if t320 = true then ((muslinlaw20_live.f kj17).bind fun t321 => (some t321)) else (some false)) = some r := H
                                have A43 := Aside0.mk A430
                                clear A430
                                by_cases c44 : t320 = true
                                · subst c44
                                  have H1 : ((muslinlaw20_live.f kj17).bind fun t321 => (some t321)) = some r := by rw [if_pos rfl] at H; exact H
                                  clear H
                                  have H := H1
                                  clear H1
                                  replace H := Option.bind_eq_some_iff.mp H
                                  obtain ⟨t321, A450, H⟩ := H
                                  replace H : (some t321) = some r := H
                                  have A45 := Aside0.mk A450
                                  clear A450
                                  obtain rfl := Option.some.inj H
                                  go_wp2_with (first | ((with_reducible refine gate_callee (f := 13) rfl ?_); refine goesL_ (some 75) rfl rfl Try.func13 (by kernel_rfl) rfl #[.string a0] rfl (by (try simp only [List.map_toArray, List.map_cons, List.map_nil]); first | done | rfl | (simp only [List.length_drop, List.length_take]; rfl)) ?_; (with_reducible refine (plain_Tree.calls kj17 a0 t299 _ A34.out).mono ?_); rintro e w46 ⟨v300, rfl, ho0, hb⟩; refine ⟨_, rfl, ?_⟩; have n0_ := Aside0.mk (Kd.N_lower (Kd.N_mono (ok' := fun k_ => True) (Kd.R_N (Kd.R_bound ho0)) (fun k_ hk_ => trivial)) (below_size (by repeat (first | (with_reducible first | exact HB.out | apply below_alloc | apply pw_below_drewN | apply below_drew1) | exact HB.out)))); have n1_ := Aside0.mk (below_step (by repeat (first | (with_reducible first | exact HB.out | apply below_alloc | apply pw_below_drewN | apply below_drew1) | exact HB.out)) hb); clear HB; have HO301 := n0_; have HB := n1_; clear n0_ n1_; (try clear hb); (try clear hb2); (try clear hk); (try clear hi); (try clear ho0); obtain ⟨Ao48, co48, eo48⟩ := Kd.N_slice HO301.out; subst eo48) | ((with_reducible refine gate_builtin (b := .append) (xs := #[.tmp 73, .tmp 75]) rfl ?_); (try (refine gate_guard (by rfl) ?_; dsimp only)); at_builtin; refine Kd.N_append_rows k36 (w0 := w) w.heap.size rfl (.tmp 73) (.tmp 75) 26 36 (.agg #[(.string ⟨#[]⟩), (.slice none 0 0), (.string ⟨#[]⟩), (.slice none 0 0)]) 80 rfl Try.underlying26 info36 rfl (by decide) (by omega) (.slice none 0 0) ([] : List (S36)) t299 _ _ _ (fun _ => True) (fun k_ => ((fun _ => True)) k_ ∧ some k_ ≠ (.slice none 0 0 : Value).ownBlock) rfl rfl ?aO ?aR (fun _ hk => hk) ?aF ?aB ?aS ?aL ?_; (case aR => exact (by skip; exact Kd.N_F (Kd.N_mono (ok' := (fun k_ => ((fun _ => True)) k_ ∧ some k_ ≠ (.slice none 0 0 : Value).ownBlock)) (HO301.out) (fun k_ hk => ⟨trivial, (by simp [Value.ownBlock])⟩)))); (case aB => exact (by repeat (first | (with_reducible first | exact HB.out | apply below_alloc | apply pw_below_drewN | apply below_drew1) | exact HB.out))); (case aF => exact (fun _ _ => trivial)); (case aO => exact ((Kd.N_nil _ _ _ _ (fun _ => True)))); (case aS => exact (below_size (by repeat (first | (with_reducible first | exact HB.out | apply below_alloc | apply pw_below_drewN | apply below_drew1) | exact HB.out)))); (case aL => have := LMc35.out; omega); intro v303 w47 ho hb hg hat; rw [← Ny302.out] at ho; have n0_ := Aside0.mk (Kd.N_afterv (Kd.N_apart_nil (by (with_reducible repeat (first | apply Kd.N_alloc | apply Kd.N_drewN | apply Kd.N_drew)); exact HO301.out)) hg hat); have n1_ := Aside0.mk (hb); have n2_ := Aside0.mk (ho); clear HO301; clear HB; have HO301 := n0_; have HB := n1_; have HO304 := n2_; clear n0_ n1_ n2_; clear ho hb hg hat) | ((with_reducible refine gate_builtin (b := .append) (xs := #[.tmp 77, .tmp 79]) rfl ?_); (try (refine gate_guard (by rfl) ?_; dsimp only)); at_builtin; refine Kd.N_append k36 (w0 := w) w.heap.size rfl (.tmp 77) (.tmp 79) 26 36 (.agg #[(.string ⟨#[]⟩), (.slice none 0 0), (.string ⟨#[]⟩), (.slice none 0 0)]) 80 rfl Try.underlying26 info36 rfl (by decide) (by omega) v303 y302 (⟨(⟨#[98, 114]⟩ : ByteArray), ([] : List (S51)), (⟨#[]⟩ : ByteArray), ([] : List (S36))⟩ : S36) [.string (⟨#[98, 114]⟩ : ByteArray), .slice none 0 0, .string (⟨#[]⟩ : ByteArray), .slice none 0 0] (fun _ => True) (fun k_ => ((fun _ => True)) k_ ∧ some k_ ≠ (v303 : Value).ownBlock) rfl rfl ?aP (fun _ hk => hk) ?aF ?aO ?aB ?aS ?aL ?_; (case aP => exact (k36_mkF _ _ (⟨(⟨#[98, 114]⟩ : ByteArray), ([] : List (S51)), (⟨#[]⟩ : ByteArray), ([] : List (S36))⟩ : S36) (Nat.le_refl _) (Kd.F_nil _ _ _) (Nat.le_refl _) (Kd.F_nil _ _ _))); (case aB => exact (by repeat (first | (with_reducible first | exact HB.out | apply below_alloc | apply pw_below_drewN | apply below_drew1) | exact HB.out))); (case aF => exact (fun _ _ => trivial)); (case aO => exact (by (with_reducible repeat (first | apply Kd.N_alloc | apply Kd.N_drewN | apply Kd.N_drew)); exact HO304.out)); (case aS => exact (below_size (by repeat (first | (with_reducible first | exact HB.out | apply below_alloc | apply pw_below_drewN | apply below_drew1) | exact HB.out)))); (case aL => have := LMc36.out; omega); intro v306 w49 ho hb hg hat; rw [← Ny305.out] at ho; have n0_ := Aside0.mk (Kd.N_afterv (ok := (fun _ => True)) (by (with_reducible repeat (first | apply Kd.N_alloc | apply Kd.N_drewN | apply Kd.N_drew)); exact HO301.out) hg hat); have n1_ := Aside0.mk (hb); have n2_ := Aside0.mk (ho); clear HO301; clear HB; clear HO304; have HO301 := n0_; have HB := n1_; have HO307 := n2_; clear n0_ n1_ n2_; clear ho hb hg hat) | ((with_reducible refine gate_builtin (b := .append) (xs := #[.tmp 81, .tmp 83]) rfl ?_); (try (refine gate_guard (by rfl) ?_; dsimp only)); at_builtin; refine Kd.N_append k36 (w0 := w) w.heap.size rfl (.tmp 81) (.tmp 83) 26 36 (.agg #[(.string ⟨#[]⟩), (.slice none 0 0), (.string ⟨#[]⟩), (.slice none 0 0)]) 80 rfl Try.underlying26 info36 rfl (by decide) (by omega) v306 y305 (⟨(⟨#[98, 114]⟩ : ByteArray), ([] : List (S51)), (⟨#[]⟩ : ByteArray), ([] : List (S36))⟩ : S36) [.string (⟨#[98, 114]⟩ : ByteArray), .slice none 0 0, .string (⟨#[]⟩ : ByteArray), .slice none 0 0] (fun _ => True) (fun k_ => ((fun _ => True)) k_ ∧ some k_ ≠ (v306 : Value).ownBlock) rfl rfl ?aP (fun _ hk => hk) ?aF ?aO ?aB ?aS ?aL ?_; (case aP => exact (k36_mkF _ _ (⟨(⟨#[98, 114]⟩ : ByteArray), ([] : List (S51)), (⟨#[]⟩ : ByteArray), ([] : List (S36))⟩ : S36) (Nat.le_refl _) (Kd.F_nil _ _ _) (Nat.le_refl _) (Kd.F_nil _ _ _))); (case aB => exact (by repeat (first | (with_reducible first | exact HB.out | apply below_alloc | apply pw_below_drewN | apply below_drew1) | exact HB.out))); (case aF => exact (fun _ _ => trivial)); (case aO => exact (by (with_reducible repeat (first | apply Kd.N_alloc | apply Kd.N_drewN | apply Kd.N_drew)); exact HO307.out)); (case aS => exact (below_size (by repeat (first | (with_reducible first | exact HB.out | apply below_alloc | apply pw_below_drewN | apply below_drew1) | exact HB.out)))); (case aL => have := LMc37.out; omega); intro v309 w50 ho hb hg hat; rw [← Ny308.out] at ho; have n0_ := Aside0.mk (Kd.N_afterv (ok := (fun _ => True)) (by (with_reducible repeat (first | apply Kd.N_alloc | apply Kd.N_drewN | apply Kd.N_drew)); exact HO301.out) hg hat); have n1_ := Aside0.mk (hb); have n2_ := Aside0.mk (ho); clear HO301; clear HB; clear HO307; have HO301 := n0_; have HB := n1_; have HO310 := n2_; clear n0_ n1_ n2_; clear ho hb hg hat) | ((with_reducible refine gate_callee (f := 13) rfl ?_); refine goesL_ (some 87) rfl rfl Try.func13 (by kernel_rfl) rfl #[.string a1] rfl (by (try simp only [List.map_toArray, List.map_cons, List.map_nil]); first | done | rfl | (simp only [List.length_drop, List.length_take]; rfl)) ?_; (with_reducible refine (plain_Tree.calls kj17 a1 t311 _ A38.out).mono ?_); rintro e w51 ⟨v312, rfl, ho0, hb⟩; refine ⟨_, rfl, ?_⟩; have n0_ := Aside0.mk (Kd.N_elder' (by (with_reducible repeat (first | apply Kd.N_alloc | apply Kd.N_drewN | apply Kd.N_drew)); exact HO301.out) (Kd.R_base ho0) hb); have n1_ := Aside0.mk (Kd.N_elder' (by (with_reducible repeat (first | apply Kd.N_alloc | apply Kd.N_drewN | apply Kd.N_drew)); exact HO310.out) (Kd.R_base ho0) hb); have n2_ := Aside0.mk (Kd.N_lower (Kd.N_mono (ok' := fun k_ => some k_ ≠ (.slice Ao48 t299.length co48 : Value).ownBlock ∧ some k_ ≠ (v309 : Value).ownBlock) (Kd.R_N (Kd.R_bound ho0)) (fun k_ hk_ => ⟨(Kd.fresh' (Kd.N_lt (by (with_reducible repeat (first | apply Kd.N_alloc | apply Kd.N_drewN | apply Kd.N_drew)); exact HO301.out)) k_ hk_.2.1), (Kd.fresh' (Kd.N_lt (by (with_reducible repeat (first | apply Kd.N_alloc | apply Kd.N_drewN | apply Kd.N_drew)); exact HO310.out)) k_ hk_.2.1)⟩)) (below_size (by repeat (first | (with_reducible first | exact HB.out | apply below_alloc | apply pw_below_drewN | apply below_drew1) | exact HB.out)))); have n3_ := Aside0.mk (below_step (by repeat (first | (with_reducible first | exact HB.out | apply below_alloc | apply pw_below_drewN | apply below_drew1) | exact HB.out)) hb); clear HO301; clear HO310; clear HB; have HO301 := n0_; have HO310 := n1_; have HO313 := n2_; have HB := n3_; clear n0_ n1_ n2_ n3_; (try clear hb); (try clear hb2); (try clear hk); (try clear hi); (try clear ho0); obtain ⟨Ao53, co53, eo53⟩ := Kd.N_slice HO313.out; subst eo53) | ((with_reducible refine gate_builtin (b := .append) (xs := #[.tmp 85, .tmp 87]) rfl ?_); (try (refine gate_guard (by rfl) ?_; dsimp only)); at_builtin; refine Kd.N_append_rows k36 (w0 := w) w.heap.size rfl (.tmp 85) (.tmp 87) 26 36 (.agg #[(.string ⟨#[]⟩), (.slice none 0 0), (.string ⟨#[]⟩), (.slice none 0 0)]) 80 rfl Try.underlying26 info36 rfl (by decide) (by omega) v309 y308 t311 _ _ _ (fun _ => True) (fun k_ => ((fun _ => True)) k_ ∧ some k_ ≠ (v309 : Value).ownBlock) rfl rfl ?aO ?aR (fun _ hk => hk) ?aF ?aB ?aS ?aL ?_; (case aR => exact (by skip; exact Kd.N_F (Kd.N_mono (ok' := (fun k_ => ((fun _ => True)) k_ ∧ some k_ ≠ (v309 : Value).ownBlock)) (HO313.out) (fun k_ hk => ⟨trivial, hk.2⟩)))); (case aB => exact (by repeat (first | (with_reducible first | exact HB.out | apply below_alloc | apply pw_below_drewN | apply below_drew1) | exact HB.out))); (case aF => exact (fun _ _ => trivial)); (case aO => exact (by (with_reducible repeat (first | apply Kd.N_alloc | apply Kd.N_drewN | apply Kd.N_drew)); exact Kd.N_mono HO310.out (fun _ hk => trivial))); (case aS => exact (below_size (by repeat (first | (with_reducible first | exact HB.out | apply below_alloc | apply pw_below_drewN | apply below_drew1) | exact HB.out)))); (case aL => have := LMc39.out; omega); intro v315 w52 ho hb hg hat; rw [← Ny314.out] at ho; have n0_ := Aside0.mk (Kd.N_afterv (ok := (fun k_ => some k_ ≠ (.slice Ao53 t311.length co53 : Value).ownBlock)) (by (with_reducible repeat (first | apply Kd.N_alloc | apply Kd.N_drewN | apply Kd.N_drew)); exact Kd.N_mono HO301.out (fun _ hk => ⟨hk.2, hk.1.2⟩)) hg hat); have n1_ := Aside0.mk (Kd.N_afterv (ok := (fun k_ => some k_ ≠ (.slice Ao48 t299.length co48 : Value).ownBlock)) (by (with_reducible repeat (first | apply Kd.N_alloc | apply Kd.N_drewN | apply Kd.N_drew)); exact HO313.out) hg hat); have n2_ := Aside0.mk (hb); have n3_ := Aside0.mk (ho); clear HO301; clear HO313; clear HB; clear HO310; have HO301 := n0_; have HO313 := n1_; have HB := n2_; have HO316 := n3_; clear n0_ n1_ n2_ n3_; clear ho hb hg hat) | ((with_reducible refine gate_callee (f := 13) rfl ?_); refine goesL_ (some 93) rfl rfl Try.func13 (by kernel_rfl) rfl #[.string ((a0 ++ (⟨#[10, 10]⟩ : ByteArray)) ++ a1)] rfl (by (try simp only [List.map_toArray, List.map_cons, List.map_nil]); first | done | rfl | (simp only [List.length_drop, List.length_take]; rfl)) ?_; (with_reducible refine (plain_Tree.calls kj17 ((a0 ++ (⟨#[10, 10]⟩ : ByteArray)) ++ a1) t317 _ A42.out).mono ?_); rintro e w54 ⟨v318, rfl, ho0, hb⟩; refine ⟨_, rfl, ?_⟩; have n0_ := Aside0.mk (Kd.N_elder' (by (with_reducible repeat (first | apply Kd.N_alloc | apply Kd.N_drewN | apply Kd.N_drew)); exact HO301.out) (Kd.R_base ho0) hb); have n1_ := Aside0.mk (Kd.N_elder' (by (with_reducible repeat (first | apply Kd.N_alloc | apply Kd.N_drewN | apply Kd.N_drew)); exact HO313.out) (Kd.R_base ho0) hb); have n2_ := Aside0.mk (Kd.N_elder' (by (with_reducible repeat (first | apply Kd.N_alloc | apply Kd.N_drewN | apply Kd.N_drew)); exact HO316.out) (Kd.R_base ho0) hb); have n3_ := Aside0.mk (Kd.N_lower (Kd.N_mono (ok' := fun k_ => some k_ ≠ (.slice Ao48 t299.length co48 : Value).ownBlock ∧ some k_ ≠ (.slice Ao53 t311.length co53 : Value).ownBlock ∧ some k_ ≠ (v315 : Value).ownBlock) (Kd.R_N (Kd.R_bound ho0)) (fun k_ hk_ => ⟨(Kd.fresh' (Kd.N_lt (by (with_reducible repeat (first | apply Kd.N_alloc | apply Kd.N_drewN | apply Kd.N_drew)); exact HO301.out)) k_ hk_.2.1), (Kd.fresh' (Kd.N_lt (by (with_reducible repeat (first | apply Kd.N_alloc | apply Kd.N_drewN | apply Kd.N_drew)); exact HO313.out)) k_ hk_.2.1), (Kd.fresh' (Kd.N_lt (by (with_reducible repeat (first | apply Kd.N_alloc | apply Kd.N_drewN | apply Kd.N_drew)); exact HO316.out)) k_ hk_.2.1)⟩)) (below_size (by repeat (first | (with_reducible first | exact HB.out | apply below_alloc | apply pw_below_drewN | apply below_drew1) | exact HB.out)))); have n4_ := Aside0.mk (below_step (by repeat (first | (with_reducible first | exact HB.out | apply below_alloc | apply pw_below_drewN | apply below_drew1) | exact HB.out)) hb); clear HO301; clear HO313; clear HO316; clear HB; have HO301 := n0_; have HO313 := n1_; have HO316 := n2_; have HO319 := n3_; have HB := n4_; clear n0_ n1_ n2_ n3_ n4_; (try clear hb); (try clear hb2); (try clear hk); (try clear hi); (try clear ho0); obtain ⟨Ao55, co55, eo55⟩ := Kd.N_slice HO319.out; subst eo55; obtain ⟨Ao56, co56, eo56⟩ := Kd.N_slice HO316.out; subst eo56) | ((with_reducible refine gate_callee (f := 12) rfl ?_); refine goesL_ (some 95) rfl rfl Try.func12 (by kernel_rfl) rfl #[.slice Ao55 t317.length co55, .slice Ao56 y314.length co56] rfl (by (try simp only [List.map_toArray, List.map_cons, List.map_nil]); first | done | rfl | (simp only [List.length_drop, List.length_take]; rfl)) ?_; (with_reducible refine (muslinref14_Same.calls kj17 _ _ t317 _ _ y314 true _ ?side1 ?side2 ?side3 ?side4 A43.out).mono ?_); (case side1 => repeat (first | exact (Kd.N_reads' HO319.out).2.2 | (with_reducible refine Kd.C_alloc ?_ _) | (with_reducible refine Kd.C_drewN ?_ _) | (with_reducible refine Kd.C_drew ?_))); (case side2 => exact (Kd.N_reads' HO319.out).2.1); (case side3 => repeat (first | exact (Kd.N_reads' HO316.out).2.2 | (with_reducible refine Kd.C_alloc ?_ _) | (with_reducible refine Kd.C_drewN ?_ _) | (with_reducible refine Kd.C_drew ?_))); (case side4 => exact (Kd.N_reads' HO316.out).2.1); rintro e w57 ⟨rfl, hb⟩; refine ⟨_, rfl, ?_⟩; have n0_ := Aside0.mk (Kd.N_below (by (with_reducible repeat (first | apply Kd.N_alloc | apply Kd.N_drewN | apply Kd.N_drew)); exact HO301.out) hb); have n1_ := Aside0.mk (Kd.N_below (by (with_reducible repeat (first | apply Kd.N_alloc | apply Kd.N_drewN | apply Kd.N_drew)); exact HO313.out) hb); have n2_ := Aside0.mk (Kd.N_below (by (with_reducible repeat (first | apply Kd.N_alloc | apply Kd.N_drewN | apply Kd.N_drew)); exact HO316.out) hb); have n3_ := Aside0.mk (Kd.N_below (by (with_reducible repeat (first | apply Kd.N_alloc | apply Kd.N_drewN | apply Kd.N_drew)); exact HO319.out) hb); have n4_ := Aside0.mk (below_step (by repeat (first | (with_reducible first | exact HB.out | apply below_alloc | apply pw_below_drewN | apply below_drew1) | exact HB.out)) hb); clear HO301; clear HO313; clear HO316; clear HO319; clear HB; have HO301 := n0_; have HO313 := n1_; have HO316 := n2_; have HO319 := n3_; have HB := n4_; clear n0_ n1_ n2_ n3_ n4_; (try clear hb); (try clear hb2); (try clear hk); (try clear hi)) | (go_at_call 9; (with_reducible refine (muslinlaw20_live.calls kj17  t321 _ A45.out).mono ?_); rintro e w58 ⟨rfl, hb⟩; have n0_ := Aside0.mk (Kd.N_below (by (with_reducible repeat (first | apply Kd.N_alloc | apply Kd.N_drewN | apply Kd.N_drew)); exact HO301.out) hb); have n1_ := Aside0.mk (Kd.N_below (by (with_reducible repeat (first | apply Kd.N_alloc | apply Kd.N_drewN | apply Kd.N_drew)); exact HO313.out) hb); have n2_ := Aside0.mk (Kd.N_below (by (with_reducible repeat (first | apply Kd.N_alloc | apply Kd.N_drewN | apply Kd.N_drew)); exact HO316.out) hb); have n3_ := Aside0.mk (Kd.N_below (by (with_reducible repeat (first | apply Kd.N_alloc | apply Kd.N_drewN | apply Kd.N_drew)); exact HO319.out) hb); have n4_ := Aside0.mk (below_step (by repeat (first | (with_reducible first | exact HB.out | apply below_alloc | apply pw_below_drewN | apply below_drew1) | exact HB.out)) hb); clear HO301; clear HO313; clear HO316; clear HO319; clear HB; have HO301 := n0_; have HO313 := n1_; have HO316 := n2_; have HO319 := n3_; have HB := n4_; clear n0_ n1_ n2_ n3_ n4_; (try clear hb); (try clear hb2); (try clear hk); (try clear hi)))
                                  go_ret
                                  exact ⟨by first | rfl | (simp [errW_none, errW_some] <;> rfl) | (simp only [← hji12]; first | rfl | (simp [errW_none, errW_some] <;> rfl)) | (simp [*, errW_none, errW_some] <;> rfl), by repeat (first | (with_reducible first | exact HB.out | apply below_alloc | apply pw_below_drewN | apply below_drew1) | exact HB.out)⟩
                                · replace c44 := Bool.eq_false_iff.mpr c44
                                  subst c44
                                  have H1 : (some false) = some r := by rw [if_neg (show ¬ (false = true) by decide)] at H; exact H
                                  clear H
                                  have H := H1
                                  clear H1
                                  obtain rfl := Option.some.inj H
                                  go_wp2_with (first | ((with_reducible refine gate_callee (f := 13) rfl ?_); refine goesL_ (some 75) rfl rfl Try.func13 (by kernel_rfl) rfl #[.string a0] rfl (by (try simp only [List.map_toArray, List.map_cons, List.map_nil]); first | done | rfl | (simp only [List.length_drop, List.length_take]; rfl)) ?_; (with_reducible refine (plain_Tree.calls kj17 a0 t299 _ A34.out).mono ?_); rintro e w59 ⟨v300, rfl, ho0, hb⟩; refine ⟨_, rfl, ?_⟩; have n0_ := Aside0.mk (Kd.N_lower (Kd.N_mono (ok' := fun k_ => True) (Kd.R_N (Kd.R_bound ho0)) (fun k_ hk_ => trivial)) (below_size (by repeat (first | (with_reducible first | exact HB.out | apply below_alloc | apply pw_below_drewN | apply below_drew1) | exact HB.out)))); have n1_ := Aside0.mk (below_step (by repeat (first | (with_reducible first | exact HB.out | apply below_alloc | apply pw_below_drewN | apply below_drew1) | exact HB.out)) hb); clear HB; have HO301 := n0_; have HB := n1_; clear n0_ n1_; (try clear hb); (try clear hb2); (try clear hk); (try clear hi); (try clear ho0); obtain ⟨Ao61, co61, eo61⟩ := Kd.N_slice HO301.out; subst eo61) | ((with_reducible refine gate_builtin (b := .append) (xs := #[.tmp 73, .tmp 75]) rfl ?_); (try (refine gate_guard (by rfl) ?_; dsimp only)); at_builtin; refine Kd.N_append_rows k36 (w0 := w) w.heap.size rfl (.tmp 73) (.tmp 75) 26 36 (.agg #[(.string ⟨#[]⟩), (.slice none 0 0), (.string ⟨#[]⟩), (.slice none 0 0)]) 80 rfl Try.underlying26 info36 rfl (by decide) (by omega) (.slice none 0 0) ([] : List (S36)) t299 _ _ _ (fun _ => True) (fun k_ => ((fun _ => True)) k_ ∧ some k_ ≠ (.slice none 0 0 : Value).ownBlock) rfl rfl ?aO ?aR (fun _ hk => hk) ?aF ?aB ?aS ?aL ?_; (case aR => exact (by skip; exact Kd.N_F (Kd.N_mono (ok' := (fun k_ => ((fun _ => True)) k_ ∧ some k_ ≠ (.slice none 0 0 : Value).ownBlock)) (HO301.out) (fun k_ hk => ⟨trivial, (by simp [Value.ownBlock])⟩)))); (case aB => exact (by repeat (first | (with_reducible first | exact HB.out | apply below_alloc | apply pw_below_drewN | apply below_drew1) | exact HB.out))); (case aF => exact (fun _ _ => trivial)); (case aO => exact ((Kd.N_nil _ _ _ _ (fun _ => True)))); (case aS => exact (below_size (by repeat (first | (with_reducible first | exact HB.out | apply below_alloc | apply pw_below_drewN | apply below_drew1) | exact HB.out)))); (case aL => have := LMc35.out; omega); intro v303 w60 ho hb hg hat; rw [← Ny302.out] at ho; have n0_ := Aside0.mk (Kd.N_afterv (Kd.N_apart_nil (by (with_reducible repeat (first | apply Kd.N_alloc | apply Kd.N_drewN | apply Kd.N_drew)); exact HO301.out)) hg hat); have n1_ := Aside0.mk (hb); have n2_ := Aside0.mk (ho); clear HO301; clear HB; have HO301 := n0_; have HB := n1_; have HO304 := n2_; clear n0_ n1_ n2_; clear ho hb hg hat) | ((with_reducible refine gate_builtin (b := .append) (xs := #[.tmp 77, .tmp 79]) rfl ?_); (try (refine gate_guard (by rfl) ?_; dsimp only)); at_builtin; refine Kd.N_append k36 (w0 := w) w.heap.size rfl (.tmp 77) (.tmp 79) 26 36 (.agg #[(.string ⟨#[]⟩), (.slice none 0 0), (.string ⟨#[]⟩), (.slice none 0 0)]) 80 rfl Try.underlying26 info36 rfl (by decide) (by omega) v303 y302 (⟨(⟨#[98, 114]⟩ : ByteArray), ([] : List (S51)), (⟨#[]⟩ : ByteArray), ([] : List (S36))⟩ : S36) [.string (⟨#[98, 114]⟩ : ByteArray), .slice none 0 0, .string (⟨#[]⟩ : ByteArray), .slice none 0 0] (fun _ => True) (fun k_ => ((fun _ => True)) k_ ∧ some k_ ≠ (v303 : Value).ownBlock) rfl rfl ?aP (fun _ hk => hk) ?aF ?aO ?aB ?aS ?aL ?_; (case aP => exact (k36_mkF _ _ (⟨(⟨#[98, 114]⟩ : ByteArray), ([] : List (S51)), (⟨#[]⟩ : ByteArray), ([] : List (S36))⟩ : S36) (Nat.le_refl _) (Kd.F_nil _ _ _) (Nat.le_refl _) (Kd.F_nil _ _ _))); (case aB => exact (by repeat (first | (with_reducible first | exact HB.out | apply below_alloc | apply pw_below_drewN | apply below_drew1) | exact HB.out))); (case aF => exact (fun _ _ => trivial)); (case aO => exact (by (with_reducible repeat (first | apply Kd.N_alloc | apply Kd.N_drewN | apply Kd.N_drew)); exact HO304.out)); (case aS => exact (below_size (by repeat (first | (with_reducible first | exact HB.out | apply below_alloc | apply pw_below_drewN | apply below_drew1) | exact HB.out)))); (case aL => have := LMc36.out; omega); intro v306 w62 ho hb hg hat; rw [← Ny305.out] at ho; have n0_ := Aside0.mk (Kd.N_afterv (ok := (fun _ => True)) (by (with_reducible repeat (first | apply Kd.N_alloc | apply Kd.N_drewN | apply Kd.N_drew)); exact HO301.out) hg hat); have n1_ := Aside0.mk (hb); have n2_ := Aside0.mk (ho); clear HO301; clear HB; clear HO304; have HO301 := n0_; have HB := n1_; have HO307 := n2_; clear n0_ n1_ n2_; clear ho hb hg hat) | ((with_reducible refine gate_builtin (b := .append) (xs := #[.tmp 81, .tmp 83]) rfl ?_); (try (refine gate_guard (by rfl) ?_; dsimp only)); at_builtin; refine Kd.N_append k36 (w0 := w) w.heap.size rfl (.tmp 81) (.tmp 83) 26 36 (.agg #[(.string ⟨#[]⟩), (.slice none 0 0), (.string ⟨#[]⟩), (.slice none 0 0)]) 80 rfl Try.underlying26 info36 rfl (by decide) (by omega) v306 y305 (⟨(⟨#[98, 114]⟩ : ByteArray), ([] : List (S51)), (⟨#[]⟩ : ByteArray), ([] : List (S36))⟩ : S36) [.string (⟨#[98, 114]⟩ : ByteArray), .slice none 0 0, .string (⟨#[]⟩ : ByteArray), .slice none 0 0] (fun _ => True) (fun k_ => ((fun _ => True)) k_ ∧ some k_ ≠ (v306 : Value).ownBlock) rfl rfl ?aP (fun _ hk => hk) ?aF ?aO ?aB ?aS ?aL ?_; (case aP => exact (k36_mkF _ _ (⟨(⟨#[98, 114]⟩ : ByteArray), ([] : List (S51)), (⟨#[]⟩ : ByteArray), ([] : List (S36))⟩ : S36) (Nat.le_refl _) (Kd.F_nil _ _ _) (Nat.le_refl _) (Kd.F_nil _ _ _))); (case aB => exact (by repeat (first | (with_reducible first | exact HB.out | apply below_alloc | apply pw_below_drewN | apply below_drew1) | exact HB.out))); (case aF => exact (fun _ _ => trivial)); (case aO => exact (by (with_reducible repeat (first | apply Kd.N_alloc | apply Kd.N_drewN | apply Kd.N_drew)); exact HO307.out)); (case aS => exact (below_size (by repeat (first | (with_reducible first | exact HB.out | apply below_alloc | apply pw_below_drewN | apply below_drew1) | exact HB.out)))); (case aL => have := LMc37.out; omega); intro v309 w63 ho hb hg hat; rw [← Ny308.out] at ho; have n0_ := Aside0.mk (Kd.N_afterv (ok := (fun _ => True)) (by (with_reducible repeat (first | apply Kd.N_alloc | apply Kd.N_drewN | apply Kd.N_drew)); exact HO301.out) hg hat); have n1_ := Aside0.mk (hb); have n2_ := Aside0.mk (ho); clear HO301; clear HB; clear HO307; have HO301 := n0_; have HB := n1_; have HO310 := n2_; clear n0_ n1_ n2_; clear ho hb hg hat) | ((with_reducible refine gate_callee (f := 13) rfl ?_); refine goesL_ (some 87) rfl rfl Try.func13 (by kernel_rfl) rfl #[.string a1] rfl (by (try simp only [List.map_toArray, List.map_cons, List.map_nil]); first | done | rfl | (simp only [List.length_drop, List.length_take]; rfl)) ?_; (with_reducible refine (plain_Tree.calls kj17 a1 t311 _ A38.out).mono ?_); rintro e w64 ⟨v312, rfl, ho0, hb⟩; refine ⟨_, rfl, ?_⟩; have n0_ := Aside0.mk (Kd.N_elder' (by (with_reducible repeat (first | apply Kd.N_alloc | apply Kd.N_drewN | apply Kd.N_drew)); exact HO301.out) (Kd.R_base ho0) hb); have n1_ := Aside0.mk (Kd.N_elder' (by (with_reducible repeat (first | apply Kd.N_alloc | apply Kd.N_drewN | apply Kd.N_drew)); exact HO310.out) (Kd.R_base ho0) hb); have n2_ := Aside0.mk (Kd.N_lower (Kd.N_mono (ok' := fun k_ => some k_ ≠ (.slice Ao61 t299.length co61 : Value).ownBlock ∧ some k_ ≠ (v309 : Value).ownBlock) (Kd.R_N (Kd.R_bound ho0)) (fun k_ hk_ => ⟨(Kd.fresh' (Kd.N_lt (by (with_reducible repeat (first | apply Kd.N_alloc | apply Kd.N_drewN | apply Kd.N_drew)); exact HO301.out)) k_ hk_.2.1), (Kd.fresh' (Kd.N_lt (by (with_reducible repeat (first | apply Kd.N_alloc | apply Kd.N_drewN | apply Kd.N_drew)); exact HO310.out)) k_ hk_.2.1)⟩)) (below_size (by repeat (first | (with_reducible first | exact HB.out | apply below_alloc | apply pw_below_drewN | apply below_drew1) | exact HB.out)))); have n3_ := Aside0.mk (below_step (by repeat (first | (with_reducible first | exact HB.out | apply below_alloc | apply pw_below_drewN | apply below_drew1) | exact HB.out)) hb); clear HO301; clear HO310; clear HB; have HO301 := n0_; have HO310 := n1_; have HO313 := n2_; have HB := n3_; clear n0_ n1_ n2_ n3_; (try clear hb); (try clear hb2); (try clear hk); (try clear hi); (try clear ho0); obtain ⟨Ao66, co66, eo66⟩ := Kd.N_slice HO313.out; subst eo66) | ((with_reducible refine gate_builtin (b := .append) (xs := #[.tmp 85, .tmp 87]) rfl ?_); (try (refine gate_guard (by rfl) ?_; dsimp only)); at_builtin; refine Kd.N_append_rows k36 (w0 := w) w.heap.size rfl (.tmp 85) (.tmp 87) 26 36 (.agg #[(.string ⟨#[]⟩), (.slice none 0 0), (.string ⟨#[]⟩), (.slice none 0 0)]) 80 rfl Try.underlying26 info36 rfl (by decide) (by omega) v309 y308 t311 _ _ _ (fun _ => True) (fun k_ => ((fun _ => True)) k_ ∧ some k_ ≠ (v309 : Value).ownBlock) rfl rfl ?aO ?aR (fun _ hk => hk) ?aF ?aB ?aS ?aL ?_; (case aR => exact (by skip; exact Kd.N_F (Kd.N_mono (ok' := (fun k_ => ((fun _ => True)) k_ ∧ some k_ ≠ (v309 : Value).ownBlock)) (HO313.out) (fun k_ hk => ⟨trivial, hk.2⟩)))); (case aB => exact (by repeat (first | (with_reducible first | exact HB.out | apply below_alloc | apply pw_below_drewN | apply below_drew1) | exact HB.out))); (case aF => exact (fun _ _ => trivial)); (case aO => exact (by (with_reducible repeat (first | apply Kd.N_alloc | apply Kd.N_drewN | apply Kd.N_drew)); exact Kd.N_mono HO310.out (fun _ hk => trivial))); (case aS => exact (below_size (by repeat (first | (with_reducible first | exact HB.out | apply below_alloc | apply pw_below_drewN | apply below_drew1) | exact HB.out)))); (case aL => have := LMc39.out; omega); intro v315 w65 ho hb hg hat; rw [← Ny314.out] at ho; have n0_ := Aside0.mk (Kd.N_afterv (ok := (fun k_ => some k_ ≠ (.slice Ao66 t311.length co66 : Value).ownBlock)) (by (with_reducible repeat (first | apply Kd.N_alloc | apply Kd.N_drewN | apply Kd.N_drew)); exact Kd.N_mono HO301.out (fun _ hk => ⟨hk.2, hk.1.2⟩)) hg hat); have n1_ := Aside0.mk (Kd.N_afterv (ok := (fun k_ => some k_ ≠ (.slice Ao61 t299.length co61 : Value).ownBlock)) (by (with_reducible repeat (first | apply Kd.N_alloc | apply Kd.N_drewN | apply Kd.N_drew)); exact HO313.out) hg hat); have n2_ := Aside0.mk (hb); have n3_ := Aside0.mk (ho); clear HO301; clear HO313; clear HB; clear HO310; have HO301 := n0_; have HO313 := n1_; have HB := n2_; have HO316 := n3_; clear n0_ n1_ n2_ n3_; clear ho hb hg hat) | ((with_reducible refine gate_callee (f := 13) rfl ?_); refine goesL_ (some 93) rfl rfl Try.func13 (by kernel_rfl) rfl #[.string ((a0 ++ (⟨#[10, 10]⟩ : ByteArray)) ++ a1)] rfl (by (try simp only [List.map_toArray, List.map_cons, List.map_nil]); first | done | rfl | (simp only [List.length_drop, List.length_take]; rfl)) ?_; (with_reducible refine (plain_Tree.calls kj17 ((a0 ++ (⟨#[10, 10]⟩ : ByteArray)) ++ a1) t317 _ A42.out).mono ?_); rintro e w67 ⟨v318, rfl, ho0, hb⟩; refine ⟨_, rfl, ?_⟩; have n0_ := Aside0.mk (Kd.N_elder' (by (with_reducible repeat (first | apply Kd.N_alloc | apply Kd.N_drewN | apply Kd.N_drew)); exact HO301.out) (Kd.R_base ho0) hb); have n1_ := Aside0.mk (Kd.N_elder' (by (with_reducible repeat (first | apply Kd.N_alloc | apply Kd.N_drewN | apply Kd.N_drew)); exact HO313.out) (Kd.R_base ho0) hb); have n2_ := Aside0.mk (Kd.N_elder' (by (with_reducible repeat (first | apply Kd.N_alloc | apply Kd.N_drewN | apply Kd.N_drew)); exact HO316.out) (Kd.R_base ho0) hb); have n3_ := Aside0.mk (Kd.N_lower (Kd.N_mono (ok' := fun k_ => some k_ ≠ (.slice Ao61 t299.length co61 : Value).ownBlock ∧ some k_ ≠ (.slice Ao66 t311.length co66 : Value).ownBlock ∧ some k_ ≠ (v315 : Value).ownBlock) (Kd.R_N (Kd.R_bound ho0)) (fun k_ hk_ => ⟨(Kd.fresh' (Kd.N_lt (by (with_reducible repeat (first | apply Kd.N_alloc | apply Kd.N_drewN | apply Kd.N_drew)); exact HO301.out)) k_ hk_.2.1), (Kd.fresh' (Kd.N_lt (by (with_reducible repeat (first | apply Kd.N_alloc | apply Kd.N_drewN | apply Kd.N_drew)); exact HO313.out)) k_ hk_.2.1), (Kd.fresh' (Kd.N_lt (by (with_reducible repeat (first | apply Kd.N_alloc | apply Kd.N_drewN | apply Kd.N_drew)); exact HO316.out)) k_ hk_.2.1)⟩)) (below_size (by repeat (first | (with_reducible first | exact HB.out | apply below_alloc | apply pw_below_drewN | apply below_drew1) | exact HB.out)))); have n4_ := Aside0.mk (below_step (by repeat (first | (with_reducible first | exact HB.out | apply below_alloc | apply pw_below_drewN | apply below_drew1) | exact HB.out)) hb); clear HO301; clear HO313; clear HO316; clear HB; have HO301 := n0_; have HO313 := n1_; have HO316 := n2_; have HO319 := n3_; have HB := n4_; clear n0_ n1_ n2_ n3_ n4_; (try clear hb); (try clear hb2); (try clear hk); (try clear hi); (try clear ho0); obtain ⟨Ao68, co68, eo68⟩ := Kd.N_slice HO319.out; subst eo68; obtain ⟨Ao69, co69, eo69⟩ := Kd.N_slice HO316.out; subst eo69) | ((with_reducible refine gate_callee (f := 12) rfl ?_); refine goesL_ (some 95) rfl rfl Try.func12 (by kernel_rfl) rfl #[.slice Ao68 t317.length co68, .slice Ao69 y314.length co69] rfl (by (try simp only [List.map_toArray, List.map_cons, List.map_nil]); first | done | rfl | (simp only [List.length_drop, List.length_take]; rfl)) ?_; (with_reducible refine (muslinref14_Same.calls kj17 _ _ t317 _ _ y314 false _ ?side1 ?side2 ?side3 ?side4 A43.out).mono ?_); (case side1 => repeat (first | exact (Kd.N_reads' HO319.out).2.2 | (with_reducible refine Kd.C_alloc ?_ _) | (with_reducible refine Kd.C_drewN ?_ _) | (with_reducible refine Kd.C_drew ?_))); (case side2 => exact (Kd.N_reads' HO319.out).2.1); (case side3 => repeat (first | exact (Kd.N_reads' HO316.out).2.2 | (with_reducible refine Kd.C_alloc ?_ _) | (with_reducible refine Kd.C_drewN ?_ _) | (with_reducible refine Kd.C_drew ?_))); (case side4 => exact (Kd.N_reads' HO316.out).2.1); rintro e w70 ⟨rfl, hb⟩; refine ⟨_, rfl, ?_⟩; have n0_ := Aside0.mk (Kd.N_below (by (with_reducible repeat (first | apply Kd.N_alloc | apply Kd.N_drewN | apply Kd.N_drew)); exact HO301.out) hb); have n1_ := Aside0.mk (Kd.N_below (by (with_reducible repeat (first | apply Kd.N_alloc | apply Kd.N_drewN | apply Kd.N_drew)); exact HO313.out) hb); have n2_ := Aside0.mk (Kd.N_below (by (with_reducible repeat (first | apply Kd.N_alloc | apply Kd.N_drewN | apply Kd.N_drew)); exact HO316.out) hb); have n3_ := Aside0.mk (Kd.N_below (by (with_reducible repeat (first | apply Kd.N_alloc | apply Kd.N_drewN | apply Kd.N_drew)); exact HO319.out) hb); have n4_ := Aside0.mk (below_step (by repeat (first | (with_reducible first | exact HB.out | apply below_alloc | apply pw_below_drewN | apply below_drew1) | exact HB.out)) hb); clear HO301; clear HO313; clear HO316; clear HO319; clear HB; have HO301 := n0_; have HO313 := n1_; have HO316 := n2_; have HO319 := n3_; have HB := n4_; clear n0_ n1_ n2_ n3_ n4_; (try clear hb); (try clear hb2); (try clear hk); (try clear hi)))
                                  go_ret
                                  exact ⟨by first | rfl | (simp [errW_none, errW_some] <;> rfl) | (simp only [← hji12]; first | rfl | (simp [errW_none, errW_some] <;> rfl)) | (simp [*, errW_none, errW_some] <;> rfl), by repeat (first | (with_reducible first | exact HB.out | apply below_alloc | apply pw_below_drewN | apply below_drew1) | exact HB.out)⟩
                              · rw [if_neg c41] at H
                                exact absurd H (by simp)
                            · rw [if_neg c40] at H
                              exact absurd H (by simp)
                          · rw [if_neg c39] at H
                            exact absurd H (by simp)
                        · rw [if_neg c37] at H
                          exact absurd H (by simp)
                      · rw [if_neg c36] at H
                        exact absurd H (by simp)
                    · rw [if_neg c35] at H
                      exact absurd H (by simp)
            · rw [if_neg c16] at H
              exact absurd H (by simp)
          · rw [if_neg c14] at H
            exact absurd H (by simp)
        · rw [if_neg c13] at H
          exact absurd H (by simp)

/-- THE ONE PURE STATEMENT of muslinlaw20_PlainJoined: yours. -/
def muslinlaw20_PlainJoined.Pure : Prop := ∀ (a0 : ByteArray) (a1 : ByteArray), a0.size ≤ 140737488351232 → a1.size ≤ 140737488351232 → ∃ k, muslinlaw20_PlainJoined.f k a0 a1 = some true
theorem muslinlaw20_PlainJoined.walk (P : muslinlaw20_PlainJoined.Pure) (a0 : ByteArray) (a1 : ByteArray) (w : World) (w0 : a0.size ≤ 140737488351232) (w1 : a1.size ≤ 140737488351232) :
    Calls Try.prog 8 #[.string a0, .string a1] w fun e w' => e = .returned (.bool true) ∧ Below w.heap.size w w' := by
  obtain ⟨k, h⟩ := P a0 a1 w0 w1
  refine (muslinlaw20_PlainJoined.calls k a0 a1 true w h).mono ?_
  rintro e w' ⟨rfl, hd⟩
  exact ⟨rfl, hd⟩

end Go.Proofs.Ythnbhcmekkadeaa.Pr
