/- Written by a program of this session (printa.py), with functions proved by hand counted as printed; Lean checks it. -/
import Derived.Test.YtollfaphadcnnaaDoorPrx0
import Derived.Test.YtollfaphadcnnaaDoorPrx2
import Derived.Test.YtollfaphadcnnaaDoorPrx4
import Derived.Test.YtollfaphadcnnaaDoorGiven
namespace Go.Proofs.YtollfaphadcnnaaDoor.Pr
open Go.RowKit Go.Proofs.YtollfaphadcnnaaDoorW.PrintWords Go.Proofs.YtollfaphadcnnaaDoorW.PrintLast Go.Proofs.YtollfaphadcnnaaDoorW.PrintMore
attribute [local go_sem] max2_int min2_int max_two min_two max_three min_three max_four min_four   -- for this text's walks alone
set_option linter.unusedVariables false
set_option linter.unusedSimpArgs false

private theorem sz_1 (a0 : UInt8) : (⟨#[a0]⟩ : ByteArray).size = 1 := rfl
private theorem sz_2 (a0 a1 : UInt8) : (⟨#[a0, a1]⟩ : ByteArray).size = 2 := rfl
private theorem sz_3 (a0 a1 a2 : UInt8) : (⟨#[a0, a1, a2]⟩ : ByteArray).size = 3 := rfl

/-! ### muslinlaw17_CssOne: function 8 -/
mutual
def muslinlaw17_CssOne.j0 : Nat → ByteArray → ByteArray → ByteArray → Bool → Option (Bool)
  | 0, _, _, _, _ => none
  | k + 1, x0, x1, x2, x26 => if x26 = true then ((muslinlaw17_live.f k).bind fun t239 => (some t239)) else (if 0 < (x1.size : Int) then (if (bt x1 0) = 32 then (muslinlaw17_CssOne.j1 k x0 x1 x2 true) else (if 0 ≤ (wrap64 ((x1.size : Int) - 1)) then (if (wrap64 ((x1.size : Int) - 1)) < (x1.size : Int) then (muslinlaw17_CssOne.j1 k x0 x1 x2 ((bt x1 (wrap64 ((x1.size : Int) - 1))) == 32)) else (none)) else (none))) else (none))
def muslinlaw17_CssOne.j1 : Nat → ByteArray → ByteArray → ByteArray → Bool → Option (Bool)
  | 0, _, _, _, _ => none
  | k + 1, x0, x1, x2, x38 => if x38 = true then ((muslinlaw17_live.f k).bind fun t240 => (some t240)) else (if x0.size + 2 ≤ 9223372036854775807 then (if (x0 ++ (⟨#[58, 32]⟩ : ByteArray)).size + x1.size ≤ 9223372036854775807 then (if x0.size + 1 ≤ 9223372036854775807 then (if (x0 ++ (⟨#[58]⟩ : ByteArray)).size + x1.size ≤ 9223372036854775807 then ((css_Clean.f ((x0 ++ (⟨#[58]⟩ : ByteArray)) ++ x1)).bind fun t241 => (if t241.toList = ((x0 ++ (⟨#[58, 32]⟩ : ByteArray)) ++ x1).toList then (if 2 + x0.size ≤ 9223372036854775807 then (if ((⟨#[32, 10]⟩ : ByteArray) ++ x0).size + 3 ≤ 9223372036854775807 then (if (((⟨#[32, 10]⟩ : ByteArray) ++ x0) ++ (⟨#[9, 58, 32]⟩ : ByteArray)).size + x1.size ≤ 9223372036854775807 then (if ((((⟨#[32, 10]⟩ : ByteArray) ++ x0) ++ (⟨#[9, 58, 32]⟩ : ByteArray)) ++ x1).size + 3 ≤ 9223372036854775807 then ((css_Clean.f (((((⟨#[32, 10]⟩ : ByteArray) ++ x0) ++ (⟨#[9, 58, 32]⟩ : ByteArray)) ++ x1) ++ (⟨#[32, 59, 59]⟩ : ByteArray))).bind fun t242 => (muslinlaw17_CssOne.j2 k x0 x2 ((x0 ++ (⟨#[58, 32]⟩ : ByteArray)) ++ x1) (t242.toList != ((x0 ++ (⟨#[58, 32]⟩ : ByteArray)) ++ x1).toList))) else (none)) else (none)) else (none)) else (none)) else (muslinlaw17_CssOne.j2 k x0 x2 ((x0 ++ (⟨#[58, 32]⟩ : ByteArray)) ++ x1) true))) else (none)) else (none)) else (none)) else (none))
def muslinlaw17_CssOne.j2 : Nat → ByteArray → ByteArray → ByteArray → Bool → Option (Bool)
  | 0, _, _, _, _ => none
  | k + 1, x0, x2, x7, x61 => if x61 = true then (some false) else ((css_Safe.f x0 x2).bind fun t243 => (if t243 = true then (if x0.size + 1 ≤ 9223372036854775807 then (if (x0 ++ (⟨#[58]⟩ : ByteArray)).size + x2.size ≤ 9223372036854775807 then (if ((x0 ++ (⟨#[58]⟩ : ByteArray)) ++ x2).size + 1 ≤ 9223372036854775807 then (if (((x0 ++ (⟨#[58]⟩ : ByteArray)) ++ x2) ++ (⟨#[59]⟩ : ByteArray)).size + x7.size ≤ 9223372036854775807 then ((css_Clean.f ((((x0 ++ (⟨#[58]⟩ : ByteArray)) ++ x2) ++ (⟨#[59]⟩ : ByteArray)) ++ x7)).bind fun t244 => (if t244.toList = x7.toList then ((muslinlaw17_live.f k).bind fun t245 => (some t245)) else (some false))) else (none)) else (none)) else (none)) else (none)) else ((muslinlaw17_live.f k).bind fun t246 => (some t246))))
end
def muslinlaw17_CssOne.f (k : Nat) (a0 : ByteArray) (a1 : ByteArray) (a2 : ByteArray) : Option (Bool) := (muslinlaw17_short.f a0).bind fun t235 => (if t235 = true then ((muslinlaw17_short.f a1).bind fun t236 => (if t236 = true then ((muslinlaw17_short.f a2).bind fun t237 => (if t237 = true then ((css_Safe.f a0 a1).bind fun t238 => (muslinlaw17_CssOne.j0 k a0 a1 a2 (!t238))) else (muslinlaw17_CssOne.j0 k a0 a1 a2 true))) else (muslinlaw17_CssOne.j0 k a0 a1 a2 true))) else (muslinlaw17_CssOne.j0 k a0 a1 a2 true))
theorem muslinlaw17_CssOne.mono_l : ∀ k, (∀ y0 y1 y2 y3, LeO (muslinlaw17_CssOne.j0 k y0 y1 y2 y3) (muslinlaw17_CssOne.j0 (k + 1) y0 y1 y2 y3)) ∧ (∀ y0 y1 y2 y3, LeO (muslinlaw17_CssOne.j1 k y0 y1 y2 y3) (muslinlaw17_CssOne.j1 (k + 1) y0 y1 y2 y3)) ∧ (∀ y0 y1 y2 y3, LeO (muslinlaw17_CssOne.j2 k y0 y1 y2 y3) (muslinlaw17_CssOne.j2 (k + 1) y0 y1 y2 y3))
  | 0 => ⟨fun _ _ _ _ r h => by simp [muslinlaw17_CssOne.j0] at h, fun _ _ _ _ r h => by simp [muslinlaw17_CssOne.j1] at h, fun _ _ _ _ r h => by simp [muslinlaw17_CssOne.j2] at h⟩
  | k + 1 => by
    obtain ⟨ih0, ih1, ih2⟩ := muslinlaw17_CssOne.mono_l k
    refine ⟨?_, ?_, ?_⟩
    · intro y0 y1 y2 y3
      unfold muslinlaw17_CssOne.j0
      repeat' first
      | (with_reducible exact ih0 _ _ _ _)
      | (with_reducible exact ih1 _ _ _ _)
      | (with_reducible exact ih2 _ _ _ _)
      | (with_reducible exact muslinlaw17_live.mono _)
      | (with_reducible exact LeO.refl _)
      | (with_reducible exact LeO.none _)
      | (with_reducible refine LeO.ite ?_ ?_)
      | (with_reducible refine LeO.bind ?_ (fun _ => ?_))
      | exact ih0 _ _ _ _
      | exact ih1 _ _ _ _
      | exact ih2 _ _ _ _
      | exact muslinlaw17_live.mono _
      | exact LeO.none _
      | refine LeO.ite ?_ ?_
      | refine LeO.bind ?_ (fun _ => ?_)
    · intro y0 y1 y2 y3
      unfold muslinlaw17_CssOne.j1
      repeat' first
      | (with_reducible exact ih0 _ _ _ _)
      | (with_reducible exact ih1 _ _ _ _)
      | (with_reducible exact ih2 _ _ _ _)
      | (with_reducible exact muslinlaw17_live.mono _)
      | (with_reducible exact LeO.refl _)
      | (with_reducible exact LeO.none _)
      | (with_reducible refine LeO.ite ?_ ?_)
      | (with_reducible refine LeO.bind ?_ (fun _ => ?_))
      | exact ih0 _ _ _ _
      | exact ih1 _ _ _ _
      | exact ih2 _ _ _ _
      | exact muslinlaw17_live.mono _
      | exact LeO.none _
      | refine LeO.ite ?_ ?_
      | refine LeO.bind ?_ (fun _ => ?_)
    · intro y0 y1 y2 y3
      unfold muslinlaw17_CssOne.j2
      repeat' first
      | (with_reducible exact ih0 _ _ _ _)
      | (with_reducible exact ih1 _ _ _ _)
      | (with_reducible exact ih2 _ _ _ _)
      | (with_reducible exact muslinlaw17_live.mono _)
      | (with_reducible exact LeO.refl _)
      | (with_reducible exact LeO.none _)
      | (with_reducible refine LeO.ite ?_ ?_)
      | (with_reducible refine LeO.bind ?_ (fun _ => ?_))
      | exact ih0 _ _ _ _
      | exact ih1 _ _ _ _
      | exact ih2 _ _ _ _
      | exact muslinlaw17_live.mono _
      | exact LeO.none _
      | refine LeO.ite ?_ ?_
      | refine LeO.bind ?_ (fun _ => ?_)
theorem muslinlaw17_CssOne.mono : ∀ a0 a1 a2 k, LeO (muslinlaw17_CssOne.f k a0 a1 a2) (muslinlaw17_CssOne.f (k + 1) a0 a1 a2) := by
  intro a0 a1 a2 k
  obtain ⟨ih0, ih1, ih2⟩ := muslinlaw17_CssOne.mono_l k
  unfold muslinlaw17_CssOne.f
  repeat' first
      | (with_reducible exact ih0 _ _ _ _)
      | (with_reducible exact ih1 _ _ _ _)
      | (with_reducible exact ih2 _ _ _ _)
      | (with_reducible exact muslinlaw17_live.mono _)
      | (with_reducible exact LeO.refl _)
      | (with_reducible exact LeO.none _)
      | (with_reducible refine LeO.ite ?_ ?_)
      | (with_reducible refine LeO.bind ?_ (fun _ => ?_))
      | exact ih0 _ _ _ _
      | exact ih1 _ _ _ _
      | exact ih2 _ _ _ _
      | exact muslinlaw17_live.mono _
      | exact LeO.none _
      | refine LeO.ite ?_ ?_
      | refine LeO.bind ?_ (fun _ => ?_)
set_option maxHeartbeats 8000000 in
set_option maxRecDepth 100000 in
theorem muslinlaw17_CssOne.calls (k : Nat) (a0 : ByteArray) (a1 : ByteArray) (a2 : ByteArray) (r : Bool) (w : World) (h : muslinlaw17_CssOne.f k a0 a1 a2 = some r) (hN : NmAt w) :
    Calls Tryd.prog 8 #[.string a0, .string a1, .string a2] w fun e w' => e = .returned (.bool r) ∧ Below w.heap.size w w' := by
  have HN := Aside0.mk hN
  clear hN
  have HB := Aside0.mk (Below.refl w.heap.size w)
  have H : ((muslinlaw17_short.f a0).bind fun t235 => (if t235 = true then ((muslinlaw17_short.f a1).bind fun t236 => (if t236 = true then ((muslinlaw17_short.f a2).bind fun t237 => (if t237 = true then ((css_Safe.f a0 a1).bind fun t238 => (muslinlaw17_CssOne.j0 k a0 a1 a2 (!t238))) else (muslinlaw17_CssOne.j0 k a0 a1 a2 true))) else (muslinlaw17_CssOne.j0 k a0 a1 a2 true))) else (muslinlaw17_CssOne.j0 k a0 a1 a2 true))) = some r := h
  clear h
  have HC4 := Aside0.mk H
  clear H
  go_enter Tryd.func8, Tryd.ntmps8
  go_upto_region 1 with (fail)
  go_cut [26] (fun v26 wc => ∃ (kq : Nat) (x26_3 : Bool), v26 = .bool x26_3 ∧ Aside0 (muslinlaw17_CssOne.j0 kq a0 a1 a2 x26_3 = some r) ∧ Aside0 (kq ≤ k) ∧ Aside0 (Below w.heap.size w wc))
  case first =>
    have H := HC4.out
    clear HC4
    replace H := Option.bind_eq_some_iff.mp H
    obtain ⟨t235, A50, H⟩ := H
    replace H : (if t235 = true then ((muslinlaw17_short.f a1).bind fun t236 => (if t236 = true then ((muslinlaw17_short.f a2).bind fun t237 => (if t237 = true then ((css_Safe.f a0 a1).bind fun t238 => (muslinlaw17_CssOne.j0 k a0 a1 a2 (!t238))) else (muslinlaw17_CssOne.j0 k a0 a1 a2 true))) else (muslinlaw17_CssOne.j0 k a0 a1 a2 true))) else (muslinlaw17_CssOne.j0 k a0 a1 a2 true)) = some r := H
    have A5 := Aside0.mk A50
    clear A50
    by_cases c6 : t235 = true
    · subst c6
      have H1 : ((muslinlaw17_short.f a1).bind fun t236 => (if t236 = true then ((muslinlaw17_short.f a2).bind fun t237 => (if t237 = true then ((css_Safe.f a0 a1).bind fun t238 => (muslinlaw17_CssOne.j0 k a0 a1 a2 (!t238))) else (muslinlaw17_CssOne.j0 k a0 a1 a2 true))) else (muslinlaw17_CssOne.j0 k a0 a1 a2 true))) = some r := by rw [if_pos rfl] at H; exact H
      clear H
      have H := H1
      clear H1
      replace H := Option.bind_eq_some_iff.mp H
      obtain ⟨t236, A70, H⟩ := H
      replace H : (if t236 = true then ((muslinlaw17_short.f a2).bind fun t237 => (if t237 = true then ((css_Safe.f a0 a1).bind fun t238 => (muslinlaw17_CssOne.j0 k a0 a1 a2 (!t238))) else (muslinlaw17_CssOne.j0 k a0 a1 a2 true))) else (muslinlaw17_CssOne.j0 k a0 a1 a2 true)) = some r := H
      have A7 := Aside0.mk A70
      clear A70
      by_cases c8 : t236 = true
      · subst c8
        have H1 : ((muslinlaw17_short.f a2).bind fun t237 => (if t237 = true then ((css_Safe.f a0 a1).bind fun t238 => (muslinlaw17_CssOne.j0 k a0 a1 a2 (!t238))) else (muslinlaw17_CssOne.j0 k a0 a1 a2 true))) = some r := by rw [if_pos rfl] at H; exact H
        clear H
        have H := H1
        clear H1
        replace H := Option.bind_eq_some_iff.mp H
        obtain ⟨t237, A90, H⟩ := H
        replace H : (if t237 = true then ((css_Safe.f a0 a1).bind fun t238 => (muslinlaw17_CssOne.j0 k a0 a1 a2 (!t238))) else (muslinlaw17_CssOne.j0 k a0 a1 a2 true)) = some r := H
        have A9 := Aside0.mk A90
        clear A90
        by_cases c10 : t237 = true
        · subst c10
          have H1 : ((css_Safe.f a0 a1).bind fun t238 => (muslinlaw17_CssOne.j0 k a0 a1 a2 (!t238))) = some r := by rw [if_pos rfl] at H; exact H
          clear H
          have H := H1
          clear H1
          replace H := Option.bind_eq_some_iff.mp H
          obtain ⟨t238, A110, H⟩ := H
          replace H : (muslinlaw17_CssOne.j0 k a0 a1 a2 (!t238)) = some r := H
          have A11 := Aside0.mk A110
          clear A110
          have H' := Aside0.mk H
          clear H
          go_wp2_with (first | ((with_reducible refine gate_callee (f := 9) rfl ?_); refine goesL_ (some 9) rfl rfl Tryd.func9 (by kernel_rfl) rfl #[.string a0] rfl (by (try simp only [List.map_toArray, List.map_cons, List.map_nil]); first | done | rfl | (simp only [List.length_drop, List.length_take]; rfl)) ?_; (with_reducible refine (muslinlaw17_short.calls a0 true _ A5.out).mono ?_); rintro e w' ⟨rfl, ⟨nd, rfl⟩⟩; refine ⟨_, rfl, ?_⟩) | (go_at_call 9; (with_reducible refine (muslinlaw17_short.calls a1 true _ A7.out).mono ?_); rintro e w' ⟨rfl, ⟨nd, rfl⟩⟩) | (go_at_call 9; (with_reducible refine (muslinlaw17_short.calls a2 true _ A9.out).mono ?_); rintro e w' ⟨rfl, ⟨nd, rfl⟩⟩) | (go_at_call 16; (with_reducible refine (css_Safe.calls a0 a1 t238 _ A11.out (NmAt.below HN.out (by repeat (first | (with_reducible first | exact HB.out | apply below_alloc | apply pw_below_drewN | apply below_drew1) | exact HB.out)))).mono ?_); rintro e w12 ⟨rfl, hb⟩; have n0_ := Aside0.mk (below_step (by repeat (first | (with_reducible first | exact HB.out | apply below_alloc | apply pw_below_drewN | apply below_drew1) | exact HB.out)) hb); clear HB; have HB := n0_; clear n0_; (try clear hb); (try clear hb2); (try clear hk); (try clear hi)))
          go_meet
          case rel => exact ⟨_, (!t238), (by first | rfl | (simp; done) | (simp [*]; done)), H', ⟨by first | omega | exact Nat.le_refl _⟩, ⟨by repeat (first | (with_reducible first | exact HB.out | apply below_alloc | apply pw_below_drewN | apply below_drew1) | exact HB.out)⟩⟩
        · replace c10 := Bool.eq_false_iff.mpr c10
          subst c10
          have H1 : (muslinlaw17_CssOne.j0 k a0 a1 a2 true) = some r := by rw [if_neg (show ¬ (false = true) by decide)] at H; exact H
          clear H
          have H := H1
          clear H1
          have H' := Aside0.mk H
          clear H
          go_wp2_with (first | ((with_reducible refine gate_callee (f := 9) rfl ?_); refine goesL_ (some 9) rfl rfl Tryd.func9 (by kernel_rfl) rfl #[.string a0] rfl (by (try simp only [List.map_toArray, List.map_cons, List.map_nil]); first | done | rfl | (simp only [List.length_drop, List.length_take]; rfl)) ?_; (with_reducible refine (muslinlaw17_short.calls a0 true _ A5.out).mono ?_); rintro e w' ⟨rfl, ⟨nd, rfl⟩⟩; refine ⟨_, rfl, ?_⟩) | (go_at_call 9; (with_reducible refine (muslinlaw17_short.calls a1 true _ A7.out).mono ?_); rintro e w' ⟨rfl, ⟨nd, rfl⟩⟩) | (go_at_call 9; (with_reducible refine (muslinlaw17_short.calls a2 false _ A9.out).mono ?_); rintro e w' ⟨rfl, ⟨nd, rfl⟩⟩))
          go_meet
          case rel => exact ⟨_, (true), (by first | rfl | (simp; done) | (simp [*]; done)), H', ⟨by first | omega | exact Nat.le_refl _⟩, ⟨by repeat (first | (with_reducible first | exact HB.out | apply below_alloc | apply pw_below_drewN | apply below_drew1) | exact HB.out)⟩⟩
      · replace c8 := Bool.eq_false_iff.mpr c8
        subst c8
        have H1 : (muslinlaw17_CssOne.j0 k a0 a1 a2 true) = some r := by rw [if_neg (show ¬ (false = true) by decide)] at H; exact H
        clear H
        have H := H1
        clear H1
        have H' := Aside0.mk H
        clear H
        go_wp2_with (first | ((with_reducible refine gate_callee (f := 9) rfl ?_); refine goesL_ (some 9) rfl rfl Tryd.func9 (by kernel_rfl) rfl #[.string a0] rfl (by (try simp only [List.map_toArray, List.map_cons, List.map_nil]); first | done | rfl | (simp only [List.length_drop, List.length_take]; rfl)) ?_; (with_reducible refine (muslinlaw17_short.calls a0 true _ A5.out).mono ?_); rintro e w' ⟨rfl, ⟨nd, rfl⟩⟩; refine ⟨_, rfl, ?_⟩) | (go_at_call 9; (with_reducible refine (muslinlaw17_short.calls a1 false _ A7.out).mono ?_); rintro e w' ⟨rfl, ⟨nd, rfl⟩⟩))
        go_meet
        case rel => exact ⟨_, (true), (by first | rfl | (simp; done) | (simp [*]; done)), H', ⟨by first | omega | exact Nat.le_refl _⟩, ⟨by repeat (first | (with_reducible first | exact HB.out | apply below_alloc | apply pw_below_drewN | apply below_drew1) | exact HB.out)⟩⟩
    · replace c6 := Bool.eq_false_iff.mpr c6
      subst c6
      have H1 : (muslinlaw17_CssOne.j0 k a0 a1 a2 true) = some r := by rw [if_neg (show ¬ (false = true) by decide)] at H; exact H
      clear H
      have H := H1
      clear H1
      have H' := Aside0.mk H
      clear H
      go_wp2_with (first | ((with_reducible refine gate_callee (f := 9) rfl ?_); refine goesL_ (some 9) rfl rfl Tryd.func9 (by kernel_rfl) rfl #[.string a0] rfl (by (try simp only [List.map_toArray, List.map_cons, List.map_nil]); first | done | rfl | (simp only [List.length_drop, List.length_take]; rfl)) ?_; (with_reducible refine (muslinlaw17_short.calls a0 false _ A5.out).mono ?_); rintro e w' ⟨rfl, ⟨nd, rfl⟩⟩; refine ⟨_, rfl, ?_⟩))
      go_meet
      case rel => exact ⟨_, (true), (by first | rfl | (simp; done) | (simp [*]; done)), H', ⟨by first | omega | exact Nat.le_refl _⟩, ⟨by repeat (first | (with_reducible first | exact HB.out | apply below_alloc | apply pw_below_drewN | apply below_drew1) | exact HB.out)⟩⟩
  case rest =>
    clear HC4
    try clear c1
    try clear p2
    try clear c6
    try clear c8
    try clear c9
    try clear c10
    obtain ⟨kq, x26_3, rfl, HA, HJ3, HB⟩ := hcut
    cases kq with
    | zero => exact absurd HA.out (by simp [muslinlaw17_CssOne.j0])
    | succ kj3 =>
      have H := HA.out
      clear HA
      simp only [muslinlaw17_CssOne.j0] at H
      by_cases c13 : x26_3 = true
      · subst c13
        have H1 : ((muslinlaw17_live.f kj3).bind fun t239 => (some t239)) = some r := by rw [if_pos rfl] at H; exact H
        clear H
        have H := H1
        clear H1
        replace H := Option.bind_eq_some_iff.mp H
        obtain ⟨t239, A140, H⟩ := H
        replace H : (some t239) = some r := H
        have A14 := Aside0.mk A140
        clear A140
        obtain rfl := Option.some.inj H
        go_wp2_with (first | ((with_reducible refine gate_callee (f := 10) rfl ?_); refine goesL_ (some 27) rfl rfl Tryd.func10 (by kernel_rfl) rfl #[] rfl (by (try simp only [List.map_toArray, List.map_cons, List.map_nil]); first | done | rfl | (simp only [List.length_drop, List.length_take]; rfl)) ?_; (with_reducible refine (muslinlaw17_live.calls kj3  t239 _ A14.out (NmAt.below HN.out (by repeat (first | (with_reducible first | exact HB.out | apply below_alloc | apply pw_below_drewN | apply below_drew1) | exact HB.out)))).mono ?_); rintro e w15 ⟨rfl, hb⟩; refine ⟨_, rfl, ?_⟩; have n0_ := Aside0.mk (below_step (by repeat (first | (with_reducible first | exact HB.out | apply below_alloc | apply pw_below_drewN | apply below_drew1) | exact HB.out)) hb); clear HB; have HB := n0_; clear n0_; (try clear hb); (try clear hb2); (try clear hk); (try clear hi)))
        go_ret
        exact ⟨by first | rfl | (simp [errW_none, errW_some] <;> rfl) | (simp [*, errW_none, errW_some] <;> rfl), by repeat (first | (with_reducible first | exact HB.out | apply below_alloc | apply pw_below_drewN | apply below_drew1) | exact HB.out)⟩
      · replace c13 := Bool.eq_false_iff.mpr c13
        subst c13
        have H1 : (if 0 < (a1.size : Int) then (if (bt a1 0) = 32 then (muslinlaw17_CssOne.j1 kj3 a0 a1 a2 true) else (if 0 ≤ (wrap64 ((a1.size : Int) - 1)) then (if (wrap64 ((a1.size : Int) - 1)) < (a1.size : Int) then (muslinlaw17_CssOne.j1 kj3 a0 a1 a2 ((bt a1 (wrap64 ((a1.size : Int) - 1))) == 32)) else (none)) else (none))) else (none)) = some r := by rw [if_neg (show ¬ (false = true) by decide)] at H; exact H
        clear H
        have H := H1
        clear H1
        have HC16 := Aside0.mk H
        clear H
        go_upto_region 3 with (fail)
        go_cut [38] (fun v38 wc => ∃ (kq : Nat) (x38_15 : Bool), v38 = .bool x38_15 ∧ Aside0 (muslinlaw17_CssOne.j1 kq a0 a1 a2 x38_15 = some r) ∧ Aside0 (kq ≤ kj3) ∧ Aside0 (Below w.heap.size w wc))
        case first =>
          have H := HC16.out
          clear HC16
          by_cases c17 : 0 < (a1.size : Int)
          · rw [if_pos c17] at H
            have c17b0 : decide (0 < (a1.size : Int)) = true := decide_eq_true c17
            have c17b1 : decide (0 < a1.size) = true := decide_eq_true (by omega)
            clear c17
            (first | rw [c17b0] | (simp only [i64_w, i32_w]; rw [c17b0]) | rw [c17b1] | skip)
            by_cases c19 : (bt a1 0) = 32
            · rw [if_pos c19] at H
              have c19b0 : ((bt a1 0) == 32) = true := beq_iff_eq.mpr c19
              have c19b1 : ((bt a1 0) != 32) = false := bne_eq_false_iff_eq.mpr c19
              clear c19
              have H' := Aside0.mk H
              clear H
              have p18 : 0 ≤ (0 : Int) := (by omega)
              have q18 : 0 < a1.size := (by have : (0 : Int) < (a1.size : Int) := of_decide_eq_true (by first | (with_reducible assumption) | assumption); omega)
              have hx18 : ∀ h : 0 < a1.size, ((a1[0]'h).toNat : Int) = bt a1 0 := bt_at a1 0
              clear p18
              have qi18 : (0 < (a1.size : Int)) = True := eq_true (of_decide_eq_true (by first | (with_reducible assumption) | assumption))
              replace q18 := eq_true q18
              go_wp2
              go_meet
              case rel => exact ⟨_, (true), (by first | rfl | (simp; done) | (simp [*]; done)), H', ⟨by have := HJ3.out; first | omega | exact Nat.le_refl _⟩, ⟨by repeat (first | (with_reducible first | exact HB.out | apply below_alloc | apply pw_below_drewN | apply below_drew1) | exact HB.out)⟩⟩
            · rw [if_neg c19] at H
              have c19b0 : ((bt a1 0) == 32) = false := beq_eq_false_iff_ne.mpr c19
              have c19b1 : ((bt a1 0) != 32) = true := bne_iff_ne.mpr c19
              obtain ⟨ji20, hji20⟩ : ∃ j_ : Int, (wrap64 ((a1.size : Int) - 1)) = j_ := ⟨_, rfl⟩
              replace H : (if 0 ≤ (ji20) then (if (ji20) < (a1.size : Int) then (muslinlaw17_CssOne.j1 kj3 a0 a1 a2 ((bt a1 (ji20)) == 32)) else (none)) else (none)) = some r := by first | (rw [hji20] at H; exact H) | (simp only [hji20] at H ⊢; exact H)
              have hji20w : (IntKind.i64.wrap ((a1.size : Int) - 1)) = ji20 := (i64_w _).trans hji20
              by_cases c21 : 0 ≤ (ji20)
              · rw [if_pos c21] at H
                have c21b0 : decide (0 ≤ (ji20)) = true := decide_eq_true c21
                clear c21
                by_cases c22 : (ji20) < (a1.size : Int)
                · rw [if_pos c22] at H
                  have c22b0 : decide ((ji20) < (a1.size : Int)) = true := decide_eq_true c22
                  clear c22
                  have H' := Aside0.mk H
                  clear H
                  have p18 : 0 ≤ (0 : Int) := (by omega)
                  have q18 : 0 < a1.size := (by have : (0 : Int) < (a1.size : Int) := of_decide_eq_true (by first | (with_reducible assumption) | assumption); omega)
                  have hx18 : ∀ h : 0 < a1.size, ((a1[0]'h).toNat : Int) = bt a1 0 := bt_at a1 0
                  clear p18
                  have qi18 : (0 < (a1.size : Int)) = True := eq_true (of_decide_eq_true (by first | (with_reducible assumption) | assumption))
                  replace q18 := eq_true q18
                  have p23 : 0 ≤ ((ji20) : Int) := of_decide_eq_true (by first | (with_reducible assumption) | assumption)
                  have q23 : (ji20) < (a1.size : Int) := of_decide_eq_true (by first | (with_reducible assumption) | assumption)
                  have hx23 := bt_at a1 (ji20)
                  replace p23 := eq_true p23
                  replace q23 := eq_true q23
                  go_wp2
                  go_meet
                  case rel => exact ⟨_, (((bt a1 (ji20)) == 32)), (by first | rfl | (simp; done) | (simp only [← hji20] <;> (first | rfl | simp)) | (simp [*]; done)), H', ⟨by have := HJ3.out; first | omega | exact Nat.le_refl _⟩, ⟨by repeat (first | (with_reducible first | exact HB.out | apply below_alloc | apply pw_below_drewN | apply below_drew1) | exact HB.out)⟩⟩
                · rw [if_neg c22] at H
                  exact absurd H (by simp)
              · rw [if_neg c21] at H
                exact absurd H (by simp)
          · rw [if_neg c17] at H
            exact absurd H (by simp)
        case rest =>
          clear HC16
          try clear c1
          try clear p1
          try clear q1
          try clear hx1
          try clear qi1
          try clear c2
          try clear p2
          try clear q2
          try clear hx2
          try clear c6
          try clear p6
          try clear c8
          try clear c9
          try clear c10
          try clear c13
          try clear c17
          try clear c17b0
          try clear c17b1
          try clear p18
          try clear q18
          try clear hx18
          try clear qi18
          try clear c19
          try clear c19b0
          try clear c19b1
          try clear c21
          try clear c21b0
          try clear c22
          try clear c22b0
          try clear p23
          try clear q23
          try clear hx23
          try clear p18
          try clear p2
          try clear p23
          try clear q18
          try clear q23
          obtain ⟨kq, x38_15, rfl, HA, HJ15, HB⟩ := hcut
          cases kq with
          | zero => exact absurd HA.out (by simp [muslinlaw17_CssOne.j1])
          | succ kj15 =>
            have H := HA.out
            clear HA
            simp only [muslinlaw17_CssOne.j1] at H
            by_cases c24 : x38_15 = true
            · subst c24
              have H1 : ((muslinlaw17_live.f kj15).bind fun t240 => (some t240)) = some r := by rw [if_pos rfl] at H; exact H
              clear H
              have H := H1
              clear H1
              replace H := Option.bind_eq_some_iff.mp H
              obtain ⟨t240, A250, H⟩ := H
              replace H : (some t240) = some r := H
              have A25 := Aside0.mk A250
              clear A250
              obtain rfl := Option.some.inj H
              go_wp2_with (first | ((with_reducible refine gate_callee (f := 10) rfl ?_); refine goesL_ (some 39) rfl rfl Tryd.func10 (by kernel_rfl) rfl #[] rfl (by (try simp only [List.map_toArray, List.map_cons, List.map_nil]); first | done | rfl | (simp only [List.length_drop, List.length_take]; rfl)) ?_; (with_reducible refine (muslinlaw17_live.calls kj15  t240 _ A25.out (NmAt.below HN.out (by repeat (first | (with_reducible first | exact HB.out | apply below_alloc | apply pw_below_drewN | apply below_drew1) | exact HB.out)))).mono ?_); rintro e w26 ⟨rfl, hb⟩; refine ⟨_, rfl, ?_⟩; have n0_ := Aside0.mk (below_step (by repeat (first | (with_reducible first | exact HB.out | apply below_alloc | apply pw_below_drewN | apply below_drew1) | exact HB.out)) hb); clear HB; have HB := n0_; clear n0_; (try clear hb); (try clear hb2); (try clear hk); (try clear hi)))
              go_ret
              exact ⟨by first | rfl | (simp [errW_none, errW_some] <;> rfl) | (simp [*, errW_none, errW_some] <;> rfl), by repeat (first | (with_reducible first | exact HB.out | apply below_alloc | apply pw_below_drewN | apply below_drew1) | exact HB.out)⟩
            · replace c24 := Bool.eq_false_iff.mpr c24
              subst c24
              have H1 : (if a0.size + 2 ≤ 9223372036854775807 then (if (a0 ++ (⟨#[58, 32]⟩ : ByteArray)).size + a1.size ≤ 9223372036854775807 then (if a0.size + 1 ≤ 9223372036854775807 then (if (a0 ++ (⟨#[58]⟩ : ByteArray)).size + a1.size ≤ 9223372036854775807 then ((css_Clean.f ((a0 ++ (⟨#[58]⟩ : ByteArray)) ++ a1)).bind fun t241 => (if t241.toList = ((a0 ++ (⟨#[58, 32]⟩ : ByteArray)) ++ a1).toList then (if 2 + a0.size ≤ 9223372036854775807 then (if ((⟨#[32, 10]⟩ : ByteArray) ++ a0).size + 3 ≤ 9223372036854775807 then (if (((⟨#[32, 10]⟩ : ByteArray) ++ a0) ++ (⟨#[9, 58, 32]⟩ : ByteArray)).size + a1.size ≤ 9223372036854775807 then (if ((((⟨#[32, 10]⟩ : ByteArray) ++ a0) ++ (⟨#[9, 58, 32]⟩ : ByteArray)) ++ a1).size + 3 ≤ 9223372036854775807 then ((css_Clean.f (((((⟨#[32, 10]⟩ : ByteArray) ++ a0) ++ (⟨#[9, 58, 32]⟩ : ByteArray)) ++ a1) ++ (⟨#[32, 59, 59]⟩ : ByteArray))).bind fun t242 => (muslinlaw17_CssOne.j2 kj15 a0 a2 ((a0 ++ (⟨#[58, 32]⟩ : ByteArray)) ++ a1) (t242.toList != ((a0 ++ (⟨#[58, 32]⟩ : ByteArray)) ++ a1).toList))) else (none)) else (none)) else (none)) else (none)) else (muslinlaw17_CssOne.j2 kj15 a0 a2 ((a0 ++ (⟨#[58, 32]⟩ : ByteArray)) ++ a1) true))) else (none)) else (none)) else (none)) else (none)) = some r := by rw [if_neg (show ¬ (false = true) by decide)] at H; exact H
              clear H
              have H := H1
              clear H1
              by_cases c27 : a0.size + 2 ≤ 9223372036854775807
              · rw [if_pos c27] at H
                have c27b0 := eq_true c27
                have c27b1 : decide (a0.size + 2 ≤ 9223372036854775807) = true := decide_eq_true c27
                try have c27b2 : (9223372036854775807 < a0.size + 2) = False := eq_false (Nat.not_lt.2 c27)
                by_cases c28 : (a0 ++ (⟨#[58, 32]⟩ : ByteArray)).size + a1.size ≤ 9223372036854775807
                · rw [if_pos c28] at H
                  have c28b0 := eq_true c28
                  have c28b1 : decide ((a0 ++ (⟨#[58, 32]⟩ : ByteArray)).size + a1.size ≤ 9223372036854775807) = true := decide_eq_true c28
                  have c28n := c28
                  simp only [ByteArray.size_append, sz_1, sz_2, sz_3] at c28n
                  have c28nb := eq_true c28n
                  have c28nc := eq_false (Nat.not_lt.2 c28n)
                  try have c28b2 : (9223372036854775807 < (a0 ++ (⟨#[58, 32]⟩ : ByteArray)).size + a1.size) = False := eq_false (Nat.not_lt.2 c28)
                  have HC29 := Aside0.mk H
                  clear H
                  go_upto_region 6 with (fail)
                  go_cut [61] (fun v61 wc => ∃ (kq : Nat) (x61_28 : Bool), v61 = .bool x61_28 ∧ Aside0 (muslinlaw17_CssOne.j2 kq a0 a2 ((a0 ++ (⟨#[58, 32]⟩ : ByteArray)) ++ a1) x61_28 = some r) ∧ Aside0 (kq ≤ kj15) ∧ Aside0 (Below w.heap.size w wc))
                  case first =>
                    have H := HC29.out
                    clear HC29
                    by_cases c30 : a0.size + 1 ≤ 9223372036854775807
                    · rw [if_pos c30] at H
                      have c30b0 := eq_true c30
                      have c30b1 : decide (a0.size + 1 ≤ 9223372036854775807) = true := decide_eq_true c30
                      try have c30b2 : (9223372036854775807 < a0.size + 1) = False := eq_false (Nat.not_lt.2 c30)
                      by_cases c31 : (a0 ++ (⟨#[58]⟩ : ByteArray)).size + a1.size ≤ 9223372036854775807
                      · rw [if_pos c31] at H
                        have c31b0 := eq_true c31
                        have c31b1 : decide ((a0 ++ (⟨#[58]⟩ : ByteArray)).size + a1.size ≤ 9223372036854775807) = true := decide_eq_true c31
                        have c31n := c31
                        simp only [ByteArray.size_append, sz_1, sz_2, sz_3] at c31n
                        have c31nb := eq_true c31n
                        have c31nc := eq_false (Nat.not_lt.2 c31n)
                        try have c31b2 : (9223372036854775807 < (a0 ++ (⟨#[58]⟩ : ByteArray)).size + a1.size) = False := eq_false (Nat.not_lt.2 c31)
                        replace H := Option.bind_eq_some_iff.mp H
                        obtain ⟨t241, A320, H⟩ := H
                        replace H : (if t241.toList = ((a0 ++ (⟨#[58, 32]⟩ : ByteArray)) ++ a1).toList then (if 2 + a0.size ≤ 9223372036854775807 then (if ((⟨#[32, 10]⟩ : ByteArray) ++ a0).size + 3 ≤ 9223372036854775807 then (if (((⟨#[32, 10]⟩ : ByteArray) ++ a0) ++ (⟨#[9, 58, 32]⟩ : ByteArray)).size + a1.size ≤ 9223372036854775807 then (if ((((⟨#[32, 10]⟩ : ByteArray) ++ a0) ++ (⟨#[9, 58, 32]⟩ : ByteArray)) ++ a1).size + 3 ≤ 9223372036854775807 then ((css_Clean.f (((((⟨#[32, 10]⟩ : ByteArray) ++ a0) ++ (⟨#[9, 58, 32]⟩ : ByteArray)) ++ a1) ++ (⟨#[32, 59, 59]⟩ : ByteArray))).bind fun t242 => (muslinlaw17_CssOne.j2 kj15 a0 a2 ((a0 ++ (⟨#[58, 32]⟩ : ByteArray)) ++ a1) (t242.toList != ((a0 ++ (⟨#[58, 32]⟩ : ByteArray)) ++ a1).toList))) else (none)) else (none)) else (none)) else (none)) else (muslinlaw17_CssOne.j2 kj15 a0 a2 ((a0 ++ (⟨#[58, 32]⟩ : ByteArray)) ++ a1) true)) = some r := H
                        have A32 := Aside0.mk A320
                        clear A320
                        by_cases c33 : t241.toList = ((a0 ++ (⟨#[58, 32]⟩ : ByteArray)) ++ a1).toList
                        · rw [if_pos c33] at H
                          have c33b0 : (t241.toList == ((a0 ++ (⟨#[58, 32]⟩ : ByteArray)) ++ a1).toList) = true := beq_iff_eq.mpr c33
                          have c33b1 : (t241.toList != ((a0 ++ (⟨#[58, 32]⟩ : ByteArray)) ++ a1).toList) = false := bne_eq_false_iff_eq.mpr c33
                          clear c33
                          (first | rw [c33b0] | (simp only [i64_w, i32_w]; rw [c33b0]) | rw [c33b1] | skip)
                          by_cases c34 : 2 + a0.size ≤ 9223372036854775807
                          · rw [if_pos c34] at H
                            have c34b0 := eq_true c34
                            have c34b1 : decide (2 + a0.size ≤ 9223372036854775807) = true := decide_eq_true c34
                            try have c34b2 : (9223372036854775807 < 2 + a0.size) = False := eq_false (Nat.not_lt.2 c34)
                            by_cases c35 : ((⟨#[32, 10]⟩ : ByteArray) ++ a0).size + 3 ≤ 9223372036854775807
                            · rw [if_pos c35] at H
                              have c35b0 := eq_true c35
                              have c35b1 : decide (((⟨#[32, 10]⟩ : ByteArray) ++ a0).size + 3 ≤ 9223372036854775807) = true := decide_eq_true c35
                              have c35n := c35
                              simp only [ByteArray.size_append, sz_1, sz_2, sz_3] at c35n
                              have c35nb := eq_true c35n
                              have c35nc := eq_false (Nat.not_lt.2 c35n)
                              try have c35b2 : (9223372036854775807 < ((⟨#[32, 10]⟩ : ByteArray) ++ a0).size + 3) = False := eq_false (Nat.not_lt.2 c35)
                              by_cases c36 : (((⟨#[32, 10]⟩ : ByteArray) ++ a0) ++ (⟨#[9, 58, 32]⟩ : ByteArray)).size + a1.size ≤ 9223372036854775807
                              · rw [if_pos c36] at H
                                have c36b0 := eq_true c36
                                have c36b1 : decide ((((⟨#[32, 10]⟩ : ByteArray) ++ a0) ++ (⟨#[9, 58, 32]⟩ : ByteArray)).size + a1.size ≤ 9223372036854775807) = true := decide_eq_true c36
                                have c36n := c36
                                simp only [ByteArray.size_append, sz_1, sz_2, sz_3] at c36n
                                have c36nb := eq_true c36n
                                have c36nc := eq_false (Nat.not_lt.2 c36n)
                                try have c36b2 : (9223372036854775807 < (((⟨#[32, 10]⟩ : ByteArray) ++ a0) ++ (⟨#[9, 58, 32]⟩ : ByteArray)).size + a1.size) = False := eq_false (Nat.not_lt.2 c36)
                                by_cases c37 : ((((⟨#[32, 10]⟩ : ByteArray) ++ a0) ++ (⟨#[9, 58, 32]⟩ : ByteArray)) ++ a1).size + 3 ≤ 9223372036854775807
                                · rw [if_pos c37] at H
                                  have c37b0 := eq_true c37
                                  have c37b1 : decide (((((⟨#[32, 10]⟩ : ByteArray) ++ a0) ++ (⟨#[9, 58, 32]⟩ : ByteArray)) ++ a1).size + 3 ≤ 9223372036854775807) = true := decide_eq_true c37
                                  have c37n := c37
                                  simp only [ByteArray.size_append, sz_1, sz_2, sz_3] at c37n
                                  have c37nb := eq_true c37n
                                  have c37nc := eq_false (Nat.not_lt.2 c37n)
                                  try have c37b2 : (9223372036854775807 < ((((⟨#[32, 10]⟩ : ByteArray) ++ a0) ++ (⟨#[9, 58, 32]⟩ : ByteArray)) ++ a1).size + 3) = False := eq_false (Nat.not_lt.2 c37)
                                  replace H := Option.bind_eq_some_iff.mp H
                                  obtain ⟨t242, A380, H⟩ := H
                                  replace H : (muslinlaw17_CssOne.j2 kj15 a0 a2 ((a0 ++ (⟨#[58, 32]⟩ : ByteArray)) ++ a1) (t242.toList != ((a0 ++ (⟨#[58, 32]⟩ : ByteArray)) ++ a1).toList)) = some r := H
                                  have A38 := Aside0.mk A380
                                  clear A380
                                  have H' := Aside0.mk H
                                  clear H
                                  go_wp2_with (first | ((with_reducible refine gate_callee (f := 14) rfl ?_); refine goesL_ (some 48) rfl rfl Tryd.func14 (by kernel_rfl) rfl #[.string ((a0 ++ (⟨#[58]⟩ : ByteArray)) ++ a1)] rfl (by (try simp only [List.map_toArray, List.map_cons, List.map_nil]); first | done | rfl | (simp only [List.length_drop, List.length_take]; rfl)) ?_; (with_reducible refine (css_Clean.calls ((a0 ++ (⟨#[58]⟩ : ByteArray)) ++ a1) t241 _ A32.out (NmAt.below HN.out (by repeat (first | (with_reducible first | exact HB.out | apply below_alloc | apply pw_below_drewN | apply below_drew1) | exact HB.out)))).mono ?_); rintro e w39 ⟨rfl, hb⟩; refine ⟨_, rfl, ?_⟩; have n0_ := Aside0.mk (below_step (by repeat (first | (with_reducible first | exact HB.out | apply below_alloc | apply pw_below_drewN | apply below_drew1) | exact HB.out)) hb); clear HB; have HB := n0_; clear n0_; (try clear hb); (try clear hb2); (try clear hk); (try clear hi)) | (go_at_call 14; (with_reducible refine (css_Clean.calls (((((⟨#[32, 10]⟩ : ByteArray) ++ a0) ++ (⟨#[9, 58, 32]⟩ : ByteArray)) ++ a1) ++ (⟨#[32, 59, 59]⟩ : ByteArray)) t242 _ A38.out (NmAt.below HN.out (by repeat (first | (with_reducible first | exact HB.out | apply below_alloc | apply pw_below_drewN | apply below_drew1) | exact HB.out)))).mono ?_); rintro e w40 ⟨rfl, hb⟩; have n0_ := Aside0.mk (below_step (by repeat (first | (with_reducible first | exact HB.out | apply below_alloc | apply pw_below_drewN | apply below_drew1) | exact HB.out)) hb); clear HB; have HB := n0_; clear n0_; (try clear hb); (try clear hb2); (try clear hk); (try clear hi)))
                                  go_meet
                                  case rel => exact ⟨_, ((t242.toList != ((a0 ++ (⟨#[58, 32]⟩ : ByteArray)) ++ a1).toList)), (by first | rfl | (simp; done) | (simp [*]; done)), H', ⟨by have := HJ3.out; have := HJ15.out; first | omega | exact Nat.le_refl _⟩, ⟨by repeat (first | (with_reducible first | exact HB.out | apply below_alloc | apply pw_below_drewN | apply below_drew1) | exact HB.out)⟩⟩
                                · rw [if_neg c37] at H
                                  exact absurd H (by simp)
                              · rw [if_neg c36] at H
                                exact absurd H (by simp)
                            · rw [if_neg c35] at H
                              exact absurd H (by simp)
                          · rw [if_neg c34] at H
                            exact absurd H (by simp)
                        · rw [if_neg c33] at H
                          have c33b0 : (t241.toList == ((a0 ++ (⟨#[58, 32]⟩ : ByteArray)) ++ a1).toList) = false := beq_eq_false_iff_ne.mpr c33
                          have c33b1 : (t241.toList != ((a0 ++ (⟨#[58, 32]⟩ : ByteArray)) ++ a1).toList) = true := bne_iff_ne.mpr c33
                          (first | rw [c33b0] | (simp only [i64_w, i32_w]; rw [c33b0]) | rw [c33b1] | skip)
                          have H' := Aside0.mk H
                          clear H
                          go_wp2_with (first | ((with_reducible refine gate_callee (f := 14) rfl ?_); refine goesL_ (some 48) rfl rfl Tryd.func14 (by kernel_rfl) rfl #[.string ((a0 ++ (⟨#[58]⟩ : ByteArray)) ++ a1)] rfl (by (try simp only [List.map_toArray, List.map_cons, List.map_nil]); first | done | rfl | (simp only [List.length_drop, List.length_take]; rfl)) ?_; (with_reducible refine (css_Clean.calls ((a0 ++ (⟨#[58]⟩ : ByteArray)) ++ a1) t241 _ A32.out (NmAt.below HN.out (by repeat (first | (with_reducible first | exact HB.out | apply below_alloc | apply pw_below_drewN | apply below_drew1) | exact HB.out)))).mono ?_); rintro e w41 ⟨rfl, hb⟩; refine ⟨_, rfl, ?_⟩; have n0_ := Aside0.mk (below_step (by repeat (first | (with_reducible first | exact HB.out | apply below_alloc | apply pw_below_drewN | apply below_drew1) | exact HB.out)) hb); clear HB; have HB := n0_; clear n0_; (try clear hb); (try clear hb2); (try clear hk); (try clear hi)))
                          go_meet
                          case rel => exact ⟨_, (true), (by first | rfl | (simp; done) | (simp [*]; done)), H', ⟨by have := HJ3.out; have := HJ15.out; first | omega | exact Nat.le_refl _⟩, ⟨by repeat (first | (with_reducible first | exact HB.out | apply below_alloc | apply pw_below_drewN | apply below_drew1) | exact HB.out)⟩⟩
                      · rw [if_neg c31] at H
                        exact absurd H (by simp)
                    · rw [if_neg c30] at H
                      exact absurd H (by simp)
                  case rest =>
                    clear HC29
                    try clear c1
                    try clear p1
                    try clear q1
                    try clear hx1
                    try clear qi1
                    try clear c2
                    try clear p2
                    try clear q2
                    try clear hx2
                    try clear c3
                    try clear c6
                    try clear p6
                    try clear c8
                    try clear c9
                    try clear c10
                    try clear c13
                    try clear c14
                    try clear c17
                    try clear c17b0
                    try clear c17b1
                    try clear p18
                    try clear q18
                    try clear hx18
                    try clear qi18
                    try clear c19
                    try clear c19b0
                    try clear c19b1
                    try clear c21
                    try clear c21b0
                    try clear c22
                    try clear c22b0
                    try clear p23
                    try clear q23
                    try clear hx23
                    try clear c24
                    try clear c27
                    try clear c27b0
                    try clear c27b1
                    try clear c27b2
                    try clear c28
                    try clear c28b0
                    try clear c28b1
                    try clear c28b2
                    try clear c30
                    try clear c30b0
                    try clear c30b1
                    try clear c30b2
                    try clear c31
                    try clear c31b0
                    try clear c31b1
                    try clear c31b2
                    try clear c33
                    try clear c33b0
                    try clear c33b1
                    try clear c34
                    try clear c34b0
                    try clear c34b1
                    try clear c34b2
                    try clear c35
                    try clear c35b0
                    try clear c35b1
                    try clear c35b2
                    try clear c36
                    try clear c36b0
                    try clear c36b1
                    try clear c36b2
                    try clear c37
                    try clear c37b0
                    try clear c37b1
                    try clear c37b2
                    try clear p1
                    try clear p18
                    try clear p2
                    try clear p23
                    try clear p6
                    try clear q1
                    try clear q18
                    try clear q2
                    try clear q23
                    obtain ⟨kq, x61_28, rfl, HA, HJ28, HB⟩ := hcut
                    cases kq with
                    | zero => exact absurd HA.out (by simp [muslinlaw17_CssOne.j2])
                    | succ kj28 =>
                      have H := HA.out
                      clear HA
                      simp only [muslinlaw17_CssOne.j2] at H
                      by_cases c42 : x61_28 = true
                      · subst c42
                        have H1 : (some false) = some r := by rw [if_pos rfl] at H; exact H
                        clear H
                        have H := H1
                        clear H1
                        obtain rfl := Option.some.inj H
                        go_wp2
                        go_ret
                        exact ⟨by first | rfl | (simp [errW_none, errW_some] <;> rfl) | (simp [*, errW_none, errW_some] <;> rfl), by repeat (first | (with_reducible first | exact HB.out | apply below_alloc | apply pw_below_drewN | apply below_drew1) | exact HB.out)⟩
                      · replace c42 := Bool.eq_false_iff.mpr c42
                        subst c42
                        have H1 : ((css_Safe.f a0 a2).bind fun t243 => (if t243 = true then (if a0.size + 1 ≤ 9223372036854775807 then (if (a0 ++ (⟨#[58]⟩ : ByteArray)).size + a2.size ≤ 9223372036854775807 then (if ((a0 ++ (⟨#[58]⟩ : ByteArray)) ++ a2).size + 1 ≤ 9223372036854775807 then (if (((a0 ++ (⟨#[58]⟩ : ByteArray)) ++ a2) ++ (⟨#[59]⟩ : ByteArray)).size + ((a0 ++ (⟨#[58, 32]⟩ : ByteArray)) ++ a1).size ≤ 9223372036854775807 then ((css_Clean.f ((((a0 ++ (⟨#[58]⟩ : ByteArray)) ++ a2) ++ (⟨#[59]⟩ : ByteArray)) ++ ((a0 ++ (⟨#[58, 32]⟩ : ByteArray)) ++ a1))).bind fun t244 => (if t244.toList = ((a0 ++ (⟨#[58, 32]⟩ : ByteArray)) ++ a1).toList then ((muslinlaw17_live.f kj28).bind fun t245 => (some t245)) else (some false))) else (none)) else (none)) else (none)) else (none)) else ((muslinlaw17_live.f kj28).bind fun t246 => (some t246)))) = some r := by rw [if_neg (show ¬ (false = true) by decide)] at H; exact H
                        clear H
                        have H := H1
                        clear H1
                        replace H := Option.bind_eq_some_iff.mp H
                        obtain ⟨t243, A430, H⟩ := H
                        replace H : (if t243 = true then (if a0.size + 1 ≤ 9223372036854775807 then (if (a0 ++ (⟨#[58]⟩ : ByteArray)).size + a2.size ≤ 9223372036854775807 then (if ((a0 ++ (⟨#[58]⟩ : ByteArray)) ++ a2).size + 1 ≤ 9223372036854775807 then (if (((a0 ++ (⟨#[58]⟩ : ByteArray)) ++ a2) ++ (⟨#[59]⟩ : ByteArray)).size + ((a0 ++ (⟨#[58, 32]⟩ : ByteArray)) ++ a1).size ≤ 9223372036854775807 then ((css_Clean.f ((((a0 ++ (⟨#[58]⟩ : ByteArray)) ++ a2) ++ (⟨#[59]⟩ : ByteArray)) ++ ((a0 ++ (⟨#[58, 32]⟩ : ByteArray)) ++ a1))).bind fun t244 => (if t244.toList = ((a0 ++ (⟨#[58, 32]⟩ : ByteArray)) ++ a1).toList then ((muslinlaw17_live.f kj28).bind fun t245 => (some t245)) else (some false))) else (none)) else (none)) else (none)) else (none)) else ((muslinlaw17_live.f kj28).bind fun t246 => (some t246))) = some r := H
                        have A43 := Aside0.mk A430
                        clear A430
                        by_cases c44 : t243 = true
                        · subst c44
                          have H1 : (if a0.size + 1 ≤ 9223372036854775807 then (if (a0 ++ (⟨#[58]⟩ : ByteArray)).size + a2.size ≤ 9223372036854775807 then (if ((a0 ++ (⟨#[58]⟩ : ByteArray)) ++ a2).size + 1 ≤ 9223372036854775807 then (if (((a0 ++ (⟨#[58]⟩ : ByteArray)) ++ a2) ++ (⟨#[59]⟩ : ByteArray)).size + ((a0 ++ (⟨#[58, 32]⟩ : ByteArray)) ++ a1).size ≤ 9223372036854775807 then ((css_Clean.f ((((a0 ++ (⟨#[58]⟩ : ByteArray)) ++ a2) ++ (⟨#[59]⟩ : ByteArray)) ++ ((a0 ++ (⟨#[58, 32]⟩ : ByteArray)) ++ a1))).bind fun t244 => (if t244.toList = ((a0 ++ (⟨#[58, 32]⟩ : ByteArray)) ++ a1).toList then ((muslinlaw17_live.f kj28).bind fun t245 => (some t245)) else (some false))) else (none)) else (none)) else (none)) else (none)) = some r := by rw [if_pos rfl] at H; exact H
                          clear H
                          have H := H1
                          clear H1
                          by_cases c45 : a0.size + 1 ≤ 9223372036854775807
                          · rw [if_pos c45] at H
                            have c45b0 := eq_true c45
                            have c45b1 : decide (a0.size + 1 ≤ 9223372036854775807) = true := decide_eq_true c45
                            try have c45b2 : (9223372036854775807 < a0.size + 1) = False := eq_false (Nat.not_lt.2 c45)
                            by_cases c46 : (a0 ++ (⟨#[58]⟩ : ByteArray)).size + a2.size ≤ 9223372036854775807
                            · rw [if_pos c46] at H
                              have c46b0 := eq_true c46
                              have c46b1 : decide ((a0 ++ (⟨#[58]⟩ : ByteArray)).size + a2.size ≤ 9223372036854775807) = true := decide_eq_true c46
                              have c46n := c46
                              simp only [ByteArray.size_append, sz_1, sz_2, sz_3] at c46n
                              have c46nb := eq_true c46n
                              have c46nc := eq_false (Nat.not_lt.2 c46n)
                              try have c46b2 : (9223372036854775807 < (a0 ++ (⟨#[58]⟩ : ByteArray)).size + a2.size) = False := eq_false (Nat.not_lt.2 c46)
                              by_cases c47 : ((a0 ++ (⟨#[58]⟩ : ByteArray)) ++ a2).size + 1 ≤ 9223372036854775807
                              · rw [if_pos c47] at H
                                have c47b0 := eq_true c47
                                have c47b1 : decide (((a0 ++ (⟨#[58]⟩ : ByteArray)) ++ a2).size + 1 ≤ 9223372036854775807) = true := decide_eq_true c47
                                have c47n := c47
                                simp only [ByteArray.size_append, sz_1, sz_2, sz_3] at c47n
                                have c47nb := eq_true c47n
                                have c47nc := eq_false (Nat.not_lt.2 c47n)
                                try have c47b2 : (9223372036854775807 < ((a0 ++ (⟨#[58]⟩ : ByteArray)) ++ a2).size + 1) = False := eq_false (Nat.not_lt.2 c47)
                                by_cases c48 : (((a0 ++ (⟨#[58]⟩ : ByteArray)) ++ a2) ++ (⟨#[59]⟩ : ByteArray)).size + ((a0 ++ (⟨#[58, 32]⟩ : ByteArray)) ++ a1).size ≤ 9223372036854775807
                                · rw [if_pos c48] at H
                                  have c48b0 := eq_true c48
                                  have c48b1 : decide ((((a0 ++ (⟨#[58]⟩ : ByteArray)) ++ a2) ++ (⟨#[59]⟩ : ByteArray)).size + ((a0 ++ (⟨#[58, 32]⟩ : ByteArray)) ++ a1).size ≤ 9223372036854775807) = true := decide_eq_true c48
                                  have c48n := c48
                                  simp only [ByteArray.size_append, sz_1, sz_2, sz_3] at c48n
                                  have c48nb := eq_true c48n
                                  have c48nc := eq_false (Nat.not_lt.2 c48n)
                                  try have c48b2 : (9223372036854775807 < (((a0 ++ (⟨#[58]⟩ : ByteArray)) ++ a2) ++ (⟨#[59]⟩ : ByteArray)).size + ((a0 ++ (⟨#[58, 32]⟩ : ByteArray)) ++ a1).size) = False := eq_false (Nat.not_lt.2 c48)
                                  replace H := Option.bind_eq_some_iff.mp H
                                  obtain ⟨t244, A490, H⟩ := H
                                  replace H : (if t244.toList = ((a0 ++ (⟨#[58, 32]⟩ : ByteArray)) ++ a1).toList then ((muslinlaw17_live.f kj28).bind fun t245 => (some t245)) else (some false)) = some r := H
                                  have A49 := Aside0.mk A490
                                  clear A490
                                  by_cases c50 : t244.toList = ((a0 ++ (⟨#[58, 32]⟩ : ByteArray)) ++ a1).toList
                                  · rw [if_pos c50] at H
                                    have c50b0 : (t244.toList == ((a0 ++ (⟨#[58, 32]⟩ : ByteArray)) ++ a1).toList) = true := beq_iff_eq.mpr c50
                                    have c50b1 : (t244.toList != ((a0 ++ (⟨#[58, 32]⟩ : ByteArray)) ++ a1).toList) = false := bne_eq_false_iff_eq.mpr c50
                                    clear c50
                                    replace H := Option.bind_eq_some_iff.mp H
                                    obtain ⟨t245, A510, H⟩ := H
                                    replace H : (some t245) = some r := H
                                    have A51 := Aside0.mk A510
                                    clear A510
                                    obtain rfl := Option.some.inj H
                                    go_wp2_with (first | ((with_reducible refine gate_callee (f := 16) rfl ?_); refine goesL_ (some 64) rfl rfl Tryd.func16 (by kernel_rfl) rfl #[.string a0, .string a2] rfl (by (try simp only [List.map_toArray, List.map_cons, List.map_nil]); first | done | rfl | (simp only [List.length_drop, List.length_take]; rfl)) ?_; (with_reducible refine (css_Safe.calls a0 a2 true _ A43.out (NmAt.below HN.out (by repeat (first | (with_reducible first | exact HB.out | apply below_alloc | apply pw_below_drewN | apply below_drew1) | exact HB.out)))).mono ?_); rintro e w52 ⟨rfl, hb⟩; refine ⟨_, rfl, ?_⟩; have n0_ := Aside0.mk (below_step (by repeat (first | (with_reducible first | exact HB.out | apply below_alloc | apply pw_below_drewN | apply below_drew1) | exact HB.out)) hb); clear HB; have HB := n0_; clear n0_; (try clear hb); (try clear hb2); (try clear hk); (try clear hi)) | (go_at_call 14; (with_reducible refine (css_Clean.calls ((((a0 ++ (⟨#[58]⟩ : ByteArray)) ++ a2) ++ (⟨#[59]⟩ : ByteArray)) ++ ((a0 ++ (⟨#[58, 32]⟩ : ByteArray)) ++ a1)) t244 _ A49.out (NmAt.below HN.out (by repeat (first | (with_reducible first | exact HB.out | apply below_alloc | apply pw_below_drewN | apply below_drew1) | exact HB.out)))).mono ?_); rintro e w53 ⟨rfl, hb⟩; have n0_ := Aside0.mk (below_step (by repeat (first | (with_reducible first | exact HB.out | apply below_alloc | apply pw_below_drewN | apply below_drew1) | exact HB.out)) hb); clear HB; have HB := n0_; clear n0_; (try clear hb); (try clear hb2); (try clear hk); (try clear hi)) | (go_at_call 10; (with_reducible refine (muslinlaw17_live.calls kj28  t245 _ A51.out (NmAt.below HN.out (by repeat (first | (with_reducible first | exact HB.out | apply below_alloc | apply pw_below_drewN | apply below_drew1) | exact HB.out)))).mono ?_); rintro e w54 ⟨rfl, hb⟩; have n0_ := Aside0.mk (below_step (by repeat (first | (with_reducible first | exact HB.out | apply below_alloc | apply pw_below_drewN | apply below_drew1) | exact HB.out)) hb); clear HB; have HB := n0_; clear n0_; (try clear hb); (try clear hb2); (try clear hk); (try clear hi)))
                                    go_ret
                                    exact ⟨by first | rfl | (simp [errW_none, errW_some] <;> rfl) | (simp [*, errW_none, errW_some] <;> rfl), by repeat (first | (with_reducible first | exact HB.out | apply below_alloc | apply pw_below_drewN | apply below_drew1) | exact HB.out)⟩
                                  · rw [if_neg c50] at H
                                    have c50b0 : (t244.toList == ((a0 ++ (⟨#[58, 32]⟩ : ByteArray)) ++ a1).toList) = false := beq_eq_false_iff_ne.mpr c50
                                    have c50b1 : (t244.toList != ((a0 ++ (⟨#[58, 32]⟩ : ByteArray)) ++ a1).toList) = true := bne_iff_ne.mpr c50
                                    obtain rfl := Option.some.inj H
                                    go_wp2_with (first | ((with_reducible refine gate_callee (f := 16) rfl ?_); refine goesL_ (some 64) rfl rfl Tryd.func16 (by kernel_rfl) rfl #[.string a0, .string a2] rfl (by (try simp only [List.map_toArray, List.map_cons, List.map_nil]); first | done | rfl | (simp only [List.length_drop, List.length_take]; rfl)) ?_; (with_reducible refine (css_Safe.calls a0 a2 true _ A43.out (NmAt.below HN.out (by repeat (first | (with_reducible first | exact HB.out | apply below_alloc | apply pw_below_drewN | apply below_drew1) | exact HB.out)))).mono ?_); rintro e w55 ⟨rfl, hb⟩; refine ⟨_, rfl, ?_⟩; have n0_ := Aside0.mk (below_step (by repeat (first | (with_reducible first | exact HB.out | apply below_alloc | apply pw_below_drewN | apply below_drew1) | exact HB.out)) hb); clear HB; have HB := n0_; clear n0_; (try clear hb); (try clear hb2); (try clear hk); (try clear hi)) | (go_at_call 14; (with_reducible refine (css_Clean.calls ((((a0 ++ (⟨#[58]⟩ : ByteArray)) ++ a2) ++ (⟨#[59]⟩ : ByteArray)) ++ ((a0 ++ (⟨#[58, 32]⟩ : ByteArray)) ++ a1)) t244 _ A49.out (NmAt.below HN.out (by repeat (first | (with_reducible first | exact HB.out | apply below_alloc | apply pw_below_drewN | apply below_drew1) | exact HB.out)))).mono ?_); rintro e w56 ⟨rfl, hb⟩; have n0_ := Aside0.mk (below_step (by repeat (first | (with_reducible first | exact HB.out | apply below_alloc | apply pw_below_drewN | apply below_drew1) | exact HB.out)) hb); clear HB; have HB := n0_; clear n0_; (try clear hb); (try clear hb2); (try clear hk); (try clear hi)))
                                    go_ret
                                    exact ⟨by first | rfl | (simp [errW_none, errW_some] <;> rfl) | (simp [*, errW_none, errW_some] <;> rfl), by repeat (first | (with_reducible first | exact HB.out | apply below_alloc | apply pw_below_drewN | apply below_drew1) | exact HB.out)⟩
                                · rw [if_neg c48] at H
                                  exact absurd H (by simp)
                              · rw [if_neg c47] at H
                                exact absurd H (by simp)
                            · rw [if_neg c46] at H
                              exact absurd H (by simp)
                          · rw [if_neg c45] at H
                            exact absurd H (by simp)
                        · replace c44 := Bool.eq_false_iff.mpr c44
                          subst c44
                          have H1 : ((muslinlaw17_live.f kj28).bind fun t246 => (some t246)) = some r := by rw [if_neg (show ¬ (false = true) by decide)] at H; exact H
                          clear H
                          have H := H1
                          clear H1
                          replace H := Option.bind_eq_some_iff.mp H
                          obtain ⟨t246, A570, H⟩ := H
                          replace H : (some t246) = some r := H
                          have A57 := Aside0.mk A570
                          clear A570
                          obtain rfl := Option.some.inj H
                          go_wp2_with (first | ((with_reducible refine gate_callee (f := 16) rfl ?_); refine goesL_ (some 64) rfl rfl Tryd.func16 (by kernel_rfl) rfl #[.string a0, .string a2] rfl (by (try simp only [List.map_toArray, List.map_cons, List.map_nil]); first | done | rfl | (simp only [List.length_drop, List.length_take]; rfl)) ?_; (with_reducible refine (css_Safe.calls a0 a2 false _ A43.out (NmAt.below HN.out (by repeat (first | (with_reducible first | exact HB.out | apply below_alloc | apply pw_below_drewN | apply below_drew1) | exact HB.out)))).mono ?_); rintro e w58 ⟨rfl, hb⟩; refine ⟨_, rfl, ?_⟩; have n0_ := Aside0.mk (below_step (by repeat (first | (with_reducible first | exact HB.out | apply below_alloc | apply pw_below_drewN | apply below_drew1) | exact HB.out)) hb); clear HB; have HB := n0_; clear n0_; (try clear hb); (try clear hb2); (try clear hk); (try clear hi)) | (go_at_call 10; (with_reducible refine (muslinlaw17_live.calls kj28  t246 _ A57.out (NmAt.below HN.out (by repeat (first | (with_reducible first | exact HB.out | apply below_alloc | apply pw_below_drewN | apply below_drew1) | exact HB.out)))).mono ?_); rintro e w59 ⟨rfl, hb⟩; have n0_ := Aside0.mk (below_step (by repeat (first | (with_reducible first | exact HB.out | apply below_alloc | apply pw_below_drewN | apply below_drew1) | exact HB.out)) hb); clear HB; have HB := n0_; clear n0_; (try clear hb); (try clear hb2); (try clear hk); (try clear hi)))
                          go_ret
                          exact ⟨by first | rfl | (simp [errW_none, errW_some] <;> rfl) | (simp [*, errW_none, errW_some] <;> rfl), by repeat (first | (with_reducible first | exact HB.out | apply below_alloc | apply pw_below_drewN | apply below_drew1) | exact HB.out)⟩
                · rw [if_neg c28] at H
                  exact absurd H (by simp)
              · rw [if_neg c27] at H
                exact absurd H (by simp)

/-- THE ONE PURE STATEMENT of muslinlaw17_CssOne: yours. -/
def muslinlaw17_CssOne.Pure : Prop := ∀ (a0 : ByteArray) (a1 : ByteArray) (a2 : ByteArray), a0.size ≤ 140737488351232 → a1.size ≤ 140737488351232 → a2.size ≤ 140737488351232 → ∃ k, muslinlaw17_CssOne.f k a0 a1 a2 = some true
theorem muslinlaw17_CssOne.walk (P : muslinlaw17_CssOne.Pure) (a0 : ByteArray) (a1 : ByteArray) (a2 : ByteArray) (w : World) (w0 : a0.size ≤ 140737488351232) (w1 : a1.size ≤ 140737488351232) (w2 : a2.size ≤ 140737488351232) (hN : NmAt w) :
    Calls Tryd.prog 8 #[.string a0, .string a1, .string a2] w fun e w' => e = .returned (.bool true) ∧ Below w.heap.size w w' := by
  obtain ⟨k, h⟩ := P a0 a1 a2 w0 w1 w2
  refine (muslinlaw17_CssOne.calls k a0 a1 a2 true w h hN).mono ?_
  rintro e w' ⟨rfl, hd⟩
  exact ⟨rfl, hd⟩

end Go.Proofs.YtollfaphadcnnaaDoor.Pr
