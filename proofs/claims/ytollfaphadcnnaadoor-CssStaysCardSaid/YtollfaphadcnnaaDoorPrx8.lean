/- Written by a program of this session (printa.py), with functions proved by hand counted as printed; Lean checks it. -/
import Derived.Test.YtollfaphadcnnaaDoorPrx0
import Derived.Test.YtollfaphadcnnaaDoorPrx2
import Derived.Test.YtollfaphadcnnaaDoorPrx4
import Derived.Test.YtollfaphadcnnaaDoorGiven
namespace Go.Proofs.YtollfaphadcnnaaDoor.Pr
open Go.RowKit Go.Proofs.YtollfaphadcnnaaDoorW.PrintWords Go.Proofs.YtollfaphadcnnaaDoorW.PrintLast Go.Proofs.YtollfaphadcnnaaDoorW.PrintMore
attribute [local go_sem] max2_int min2_int max_two min_two max_three min_three max_four min_four   -- for this text's walks alone
set_option linter.unusedVariables false
set_option linter.unusedSimpArgs false

/-! ### muslinlaw17_CssStays: function 5 -/
def muslinlaw17_CssStays.l0 : Nat → ByteArray → Int → Option (Bool)
  | 0, _, _ => none
  | k + 1, x3, x4 => if x4 < (x3.size : Int) then (if 0 ≤ x4 then (if (bt x3 x4) = 40 then (some false) else (if (bt x3 x4) = 41 then (some false) else (if (bt x3 x4) = 34 then (some false) else (if (bt x3 x4) = 39 then (some false) else (if (bt x3 x4) = 92 then (some false) else (if (bt x3 x4) = 64 then (some false) else (if (bt x3 x4) = 60 then (some false) else (if (bt x3 x4) = 62 then (some false) else (if (bt x3 x4) = 47 then (some false) else (if (bt x3 x4) = 38 then (some false) else (if (bt x3 x4) = 10 then (some false) else (muslinlaw17_CssStays.l0 k x3 (wrap64 (x4 + 1)))))))))))))) else (none)) else ((css_Clean.f x3).bind fun t193 => (if t193.toList = x3.toList then ((muslinlaw17_live.f k).bind fun t194 => (some t194)) else (some false)))
def muslinlaw17_CssStays.f (k : Nat) (a0 : ByteArray) : Option (Bool) := (muslinlaw17_short.f a0).bind fun t190 => (if t190 = true then ((css_Clean.f a0).bind fun t192 => (muslinlaw17_CssStays.l0 k t192 0)) else ((muslinlaw17_live.f k).bind fun t191 => (some t191)))
theorem muslinlaw17_CssStays.mono_l : ∀ k, (∀ y0 y1, LeO (muslinlaw17_CssStays.l0 k y0 y1) (muslinlaw17_CssStays.l0 (k + 1) y0 y1))
  | 0 => fun _ _ r h => by simp [muslinlaw17_CssStays.l0] at h
  | k + 1 => by
    have ih0 := muslinlaw17_CssStays.mono_l k
    · intro y0 y1
      unfold muslinlaw17_CssStays.l0
      repeat' first
      | (with_reducible exact ih0 _ _)
      | (with_reducible exact muslinlaw17_live.mono _)
      | (with_reducible exact LeO.refl _)
      | (with_reducible exact LeO.none _)
      | (with_reducible refine LeO.ite ?_ ?_)
      | (with_reducible refine LeO.bind ?_ (fun _ => ?_))
      | exact ih0 _ _
      | exact muslinlaw17_live.mono _
      | exact LeO.none _
      | refine LeO.ite ?_ ?_
      | refine LeO.bind ?_ (fun _ => ?_)
theorem muslinlaw17_CssStays.mono : ∀ a0 k, LeO (muslinlaw17_CssStays.f k a0) (muslinlaw17_CssStays.f (k + 1) a0) := by
  intro a0 k
  have ih0 := muslinlaw17_CssStays.mono_l k
  unfold muslinlaw17_CssStays.f
  repeat' first
      | (with_reducible exact ih0 _ _)
      | (with_reducible exact muslinlaw17_live.mono _)
      | (with_reducible exact LeO.refl _)
      | (with_reducible exact LeO.none _)
      | (with_reducible refine LeO.ite ?_ ?_)
      | (with_reducible refine LeO.bind ?_ (fun _ => ?_))
      | exact ih0 _ _
      | exact muslinlaw17_live.mono _
      | exact LeO.none _
      | refine LeO.ite ?_ ?_
      | refine LeO.bind ?_ (fun _ => ?_)
set_option maxHeartbeats 8000000 in
set_option maxRecDepth 100000 in
theorem muslinlaw17_CssStays.calls (k : Nat) (a0 : ByteArray) (r : Bool) (w : World) (h : muslinlaw17_CssStays.f k a0 = some r) (hN : NmAt w) :
    Calls Tryd.prog 5 #[.string a0] w fun e w' => e = .returned (.bool r) ∧ Below w.heap.size w w' := by
  have HN := Aside0.mk hN
  clear hN
  have HB := Aside0.mk (Below.refl w.heap.size w)
  have H : ((muslinlaw17_short.f a0).bind fun t190 => (if t190 = true then ((css_Clean.f a0).bind fun t192 => (muslinlaw17_CssStays.l0 k t192 0)) else ((muslinlaw17_live.f k).bind fun t191 => (some t191)))) = some r := h
  clear h
  replace H := Option.bind_eq_some_iff.mp H
  obtain ⟨t190, A20, H⟩ := H
  replace H : (if t190 = true then ((css_Clean.f a0).bind fun t192 => (muslinlaw17_CssStays.l0 k t192 0)) else ((muslinlaw17_live.f k).bind fun t191 => (some t191))) = some r := H
  have A2 := Aside0.mk A20
  clear A20
  by_cases c3 : t190 = true
  · subst c3
    have H1 : ((css_Clean.f a0).bind fun t192 => (muslinlaw17_CssStays.l0 k t192 0)) = some r := by rw [if_pos rfl] at H; exact H
    clear H
    have H := H1
    clear H1
    replace H := Option.bind_eq_some_iff.mp H
    obtain ⟨t192, A40, H⟩ := H
    replace H : (muslinlaw17_CssStays.l0 k t192 0) = some r := H
    have A4 := Aside0.mk A40
    clear A40
    have H' := Aside0.mk H
    clear H
    go_enter Tryd.func5, Tryd.ntmps5
    go_wp2_with (first | ((with_reducible refine gate_callee (f := 9) rfl ?_); refine goesL_ (some 6) rfl rfl Tryd.func9 (by kernel_rfl) rfl #[.string a0] rfl (by (try simp only [List.map_toArray, List.map_cons, List.map_nil]); first | done | rfl | (simp only [List.length_drop, List.length_take]; rfl)) ?_; (with_reducible refine (muslinlaw17_short.calls a0 true _ A2.out).mono ?_); rintro e w' ⟨rfl, ⟨nd, rfl⟩⟩; refine ⟨_, rfl, ?_⟩) | ((with_reducible refine gate_callee (f := 14) rfl ?_); refine goesL_ (some 10) rfl rfl Tryd.func14 (by kernel_rfl) rfl #[.string a0] rfl (by (try simp only [List.map_toArray, List.map_cons, List.map_nil]); first | done | rfl | (simp only [List.length_drop, List.length_take]; rfl)) ?_; (with_reducible refine (css_Clean.calls a0 t192 _ A4.out (NmAt.below HN.out (by repeat (first | (with_reducible first | exact HB.out | apply below_alloc | apply pw_below_drewN | apply below_drew1) | exact HB.out)))).mono ?_); rintro e w5 ⟨rfl, hb⟩; refine ⟨_, rfl, ?_⟩; have n0_ := Aside0.mk (below_step (by repeat (first | (with_reducible first | exact HB.out | apply below_alloc | apply pw_below_drewN | apply below_drew1) | exact HB.out)) hb); clear HB; have HB := n0_; clear n0_; (try clear hb); (try clear hb2); (try clear hk); (try clear hi)))
    go_loopg [4] k (fun kq v4 w' => ∃ (x4_1 : Int), v4 = .int .i64 x4_1 ∧ Aside0 (muslinlaw17_CssStays.l0 kq t192 x4_1 = some r) ∧ Aside0 (kq ≤ k) ∧ Aside0 (Below w.heap.size w w'))
    case atStart => exact ⟨(0), (by first | rfl | (simp; done) | (simp [*]; done)), H', ⟨Nat.le_refl _⟩, ⟨by repeat (first | (with_reducible first | exact HB.out | apply below_alloc | apply pw_below_drewN | apply below_drew1) | exact HB.out)⟩⟩
    case round =>
      clear H'
      try clear c1
      try clear p2
      try clear c3
      try clear c5
      obtain ⟨x4_1, rfl, HA, HK1, HB⟩ := hrel
      cases gk with
      | zero => exact absurd HA.out (by simp [muslinlaw17_CssStays.l0])
      | succ k1 =>
        have H := HA.out
        clear HA
        simp only [muslinlaw17_CssStays.l0] at H
        by_cases c6 : x4_1 < (t192.size : Int)
        · rw [if_pos c6] at H
          have c6b0 : decide (x4_1 < (t192.size : Int)) = true := decide_eq_true c6
          clear c6
          by_cases c7 : 0 ≤ x4_1
          · rw [if_pos c7] at H
            have c7b0 : decide (0 ≤ x4_1) = true := decide_eq_true c7
            clear c7
            by_cases c9 : (bt t192 x4_1) = 40
            · rw [if_pos c9] at H
              have c9b0 : ((bt t192 x4_1) == 40) = true := beq_iff_eq.mpr c9
              have c9b1 : ((bt t192 x4_1) != 40) = false := bne_eq_false_iff_eq.mpr c9
              clear c9
              obtain rfl := Option.some.inj H
              have p8 : 0 ≤ (x4_1 : Int) := of_decide_eq_true (by first | (with_reducible assumption) | assumption)
              have q8 : x4_1 < (t192.size : Int) := of_decide_eq_true (by first | (with_reducible assumption) | assumption)
              have hx8 := bt_at t192 x4_1
              replace p8 := eq_true p8
              replace q8 := eq_true q8
              go_wp2
              go_ret
              exact ⟨by first | rfl | (simp [errW_none, errW_some] <;> rfl) | (simp [*, errW_none, errW_some] <;> rfl), by repeat (first | (with_reducible first | exact HB.out | apply below_alloc | apply pw_below_drewN | apply below_drew1) | exact HB.out)⟩
            · rw [if_neg c9] at H
              have c9b0 : ((bt t192 x4_1) == 40) = false := beq_eq_false_iff_ne.mpr c9
              have c9b1 : ((bt t192 x4_1) != 40) = true := bne_iff_ne.mpr c9
              by_cases c10 : (bt t192 x4_1) = 41
              · rw [if_pos c10] at H
                have c10b0 : ((bt t192 x4_1) == 41) = true := beq_iff_eq.mpr c10
                have c10b1 : ((bt t192 x4_1) != 41) = false := bne_eq_false_iff_eq.mpr c10
                clear c10
                obtain rfl := Option.some.inj H
                have p8 : 0 ≤ (x4_1 : Int) := of_decide_eq_true (by first | (with_reducible assumption) | assumption)
                have q8 : x4_1 < (t192.size : Int) := of_decide_eq_true (by first | (with_reducible assumption) | assumption)
                have hx8 := bt_at t192 x4_1
                replace p8 := eq_true p8
                replace q8 := eq_true q8
                go_wp2
                go_ret
                exact ⟨by first | rfl | (simp [errW_none, errW_some] <;> rfl) | (simp [*, errW_none, errW_some] <;> rfl), by repeat (first | (with_reducible first | exact HB.out | apply below_alloc | apply pw_below_drewN | apply below_drew1) | exact HB.out)⟩
              · rw [if_neg c10] at H
                have c10b0 : ((bt t192 x4_1) == 41) = false := beq_eq_false_iff_ne.mpr c10
                have c10b1 : ((bt t192 x4_1) != 41) = true := bne_iff_ne.mpr c10
                by_cases c11 : (bt t192 x4_1) = 34
                · rw [if_pos c11] at H
                  have c11b0 : ((bt t192 x4_1) == 34) = true := beq_iff_eq.mpr c11
                  have c11b1 : ((bt t192 x4_1) != 34) = false := bne_eq_false_iff_eq.mpr c11
                  clear c11
                  obtain rfl := Option.some.inj H
                  have p8 : 0 ≤ (x4_1 : Int) := of_decide_eq_true (by first | (with_reducible assumption) | assumption)
                  have q8 : x4_1 < (t192.size : Int) := of_decide_eq_true (by first | (with_reducible assumption) | assumption)
                  have hx8 := bt_at t192 x4_1
                  replace p8 := eq_true p8
                  replace q8 := eq_true q8
                  go_wp2
                  go_ret
                  exact ⟨by first | rfl | (simp [errW_none, errW_some] <;> rfl) | (simp [*, errW_none, errW_some] <;> rfl), by repeat (first | (with_reducible first | exact HB.out | apply below_alloc | apply pw_below_drewN | apply below_drew1) | exact HB.out)⟩
                · rw [if_neg c11] at H
                  have c11b0 : ((bt t192 x4_1) == 34) = false := beq_eq_false_iff_ne.mpr c11
                  have c11b1 : ((bt t192 x4_1) != 34) = true := bne_iff_ne.mpr c11
                  by_cases c12 : (bt t192 x4_1) = 39
                  · rw [if_pos c12] at H
                    have c12b0 : ((bt t192 x4_1) == 39) = true := beq_iff_eq.mpr c12
                    have c12b1 : ((bt t192 x4_1) != 39) = false := bne_eq_false_iff_eq.mpr c12
                    clear c12
                    obtain rfl := Option.some.inj H
                    have p8 : 0 ≤ (x4_1 : Int) := of_decide_eq_true (by first | (with_reducible assumption) | assumption)
                    have q8 : x4_1 < (t192.size : Int) := of_decide_eq_true (by first | (with_reducible assumption) | assumption)
                    have hx8 := bt_at t192 x4_1
                    replace p8 := eq_true p8
                    replace q8 := eq_true q8
                    go_wp2
                    go_ret
                    exact ⟨by first | rfl | (simp [errW_none, errW_some] <;> rfl) | (simp [*, errW_none, errW_some] <;> rfl), by repeat (first | (with_reducible first | exact HB.out | apply below_alloc | apply pw_below_drewN | apply below_drew1) | exact HB.out)⟩
                  · rw [if_neg c12] at H
                    have c12b0 : ((bt t192 x4_1) == 39) = false := beq_eq_false_iff_ne.mpr c12
                    have c12b1 : ((bt t192 x4_1) != 39) = true := bne_iff_ne.mpr c12
                    by_cases c13 : (bt t192 x4_1) = 92
                    · rw [if_pos c13] at H
                      have c13b0 : ((bt t192 x4_1) == 92) = true := beq_iff_eq.mpr c13
                      have c13b1 : ((bt t192 x4_1) != 92) = false := bne_eq_false_iff_eq.mpr c13
                      clear c13
                      obtain rfl := Option.some.inj H
                      have p8 : 0 ≤ (x4_1 : Int) := of_decide_eq_true (by first | (with_reducible assumption) | assumption)
                      have q8 : x4_1 < (t192.size : Int) := of_decide_eq_true (by first | (with_reducible assumption) | assumption)
                      have hx8 := bt_at t192 x4_1
                      replace p8 := eq_true p8
                      replace q8 := eq_true q8
                      go_wp2
                      go_ret
                      exact ⟨by first | rfl | (simp [errW_none, errW_some] <;> rfl) | (simp [*, errW_none, errW_some] <;> rfl), by repeat (first | (with_reducible first | exact HB.out | apply below_alloc | apply pw_below_drewN | apply below_drew1) | exact HB.out)⟩
                    · rw [if_neg c13] at H
                      have c13b0 : ((bt t192 x4_1) == 92) = false := beq_eq_false_iff_ne.mpr c13
                      have c13b1 : ((bt t192 x4_1) != 92) = true := bne_iff_ne.mpr c13
                      by_cases c14 : (bt t192 x4_1) = 64
                      · rw [if_pos c14] at H
                        have c14b0 : ((bt t192 x4_1) == 64) = true := beq_iff_eq.mpr c14
                        have c14b1 : ((bt t192 x4_1) != 64) = false := bne_eq_false_iff_eq.mpr c14
                        clear c14
                        obtain rfl := Option.some.inj H
                        have p8 : 0 ≤ (x4_1 : Int) := of_decide_eq_true (by first | (with_reducible assumption) | assumption)
                        have q8 : x4_1 < (t192.size : Int) := of_decide_eq_true (by first | (with_reducible assumption) | assumption)
                        have hx8 := bt_at t192 x4_1
                        replace p8 := eq_true p8
                        replace q8 := eq_true q8
                        go_wp2
                        go_ret
                        exact ⟨by first | rfl | (simp [errW_none, errW_some] <;> rfl) | (simp [*, errW_none, errW_some] <;> rfl), by repeat (first | (with_reducible first | exact HB.out | apply below_alloc | apply pw_below_drewN | apply below_drew1) | exact HB.out)⟩
                      · rw [if_neg c14] at H
                        have c14b0 : ((bt t192 x4_1) == 64) = false := beq_eq_false_iff_ne.mpr c14
                        have c14b1 : ((bt t192 x4_1) != 64) = true := bne_iff_ne.mpr c14
                        by_cases c15 : (bt t192 x4_1) = 60
                        · rw [if_pos c15] at H
                          have c15b0 : ((bt t192 x4_1) == 60) = true := beq_iff_eq.mpr c15
                          have c15b1 : ((bt t192 x4_1) != 60) = false := bne_eq_false_iff_eq.mpr c15
                          clear c15
                          obtain rfl := Option.some.inj H
                          have p8 : 0 ≤ (x4_1 : Int) := of_decide_eq_true (by first | (with_reducible assumption) | assumption)
                          have q8 : x4_1 < (t192.size : Int) := of_decide_eq_true (by first | (with_reducible assumption) | assumption)
                          have hx8 := bt_at t192 x4_1
                          replace p8 := eq_true p8
                          replace q8 := eq_true q8
                          go_wp2
                          go_ret
                          exact ⟨by first | rfl | (simp [errW_none, errW_some] <;> rfl) | (simp [*, errW_none, errW_some] <;> rfl), by repeat (first | (with_reducible first | exact HB.out | apply below_alloc | apply pw_below_drewN | apply below_drew1) | exact HB.out)⟩
                        · rw [if_neg c15] at H
                          have c15b0 : ((bt t192 x4_1) == 60) = false := beq_eq_false_iff_ne.mpr c15
                          have c15b1 : ((bt t192 x4_1) != 60) = true := bne_iff_ne.mpr c15
                          by_cases c16 : (bt t192 x4_1) = 62
                          · rw [if_pos c16] at H
                            have c16b0 : ((bt t192 x4_1) == 62) = true := beq_iff_eq.mpr c16
                            have c16b1 : ((bt t192 x4_1) != 62) = false := bne_eq_false_iff_eq.mpr c16
                            clear c16
                            obtain rfl := Option.some.inj H
                            have p8 : 0 ≤ (x4_1 : Int) := of_decide_eq_true (by first | (with_reducible assumption) | assumption)
                            have q8 : x4_1 < (t192.size : Int) := of_decide_eq_true (by first | (with_reducible assumption) | assumption)
                            have hx8 := bt_at t192 x4_1
                            replace p8 := eq_true p8
                            replace q8 := eq_true q8
                            go_wp2
                            go_ret
                            exact ⟨by first | rfl | (simp [errW_none, errW_some] <;> rfl) | (simp [*, errW_none, errW_some] <;> rfl), by repeat (first | (with_reducible first | exact HB.out | apply below_alloc | apply pw_below_drewN | apply below_drew1) | exact HB.out)⟩
                          · rw [if_neg c16] at H
                            have c16b0 : ((bt t192 x4_1) == 62) = false := beq_eq_false_iff_ne.mpr c16
                            have c16b1 : ((bt t192 x4_1) != 62) = true := bne_iff_ne.mpr c16
                            by_cases c17 : (bt t192 x4_1) = 47
                            · rw [if_pos c17] at H
                              have c17b0 : ((bt t192 x4_1) == 47) = true := beq_iff_eq.mpr c17
                              have c17b1 : ((bt t192 x4_1) != 47) = false := bne_eq_false_iff_eq.mpr c17
                              clear c17
                              obtain rfl := Option.some.inj H
                              have p8 : 0 ≤ (x4_1 : Int) := of_decide_eq_true (by first | (with_reducible assumption) | assumption)
                              have q8 : x4_1 < (t192.size : Int) := of_decide_eq_true (by first | (with_reducible assumption) | assumption)
                              have hx8 := bt_at t192 x4_1
                              replace p8 := eq_true p8
                              replace q8 := eq_true q8
                              go_wp2
                              go_ret
                              exact ⟨by first | rfl | (simp [errW_none, errW_some] <;> rfl) | (simp [*, errW_none, errW_some] <;> rfl), by repeat (first | (with_reducible first | exact HB.out | apply below_alloc | apply pw_below_drewN | apply below_drew1) | exact HB.out)⟩
                            · rw [if_neg c17] at H
                              have c17b0 : ((bt t192 x4_1) == 47) = false := beq_eq_false_iff_ne.mpr c17
                              have c17b1 : ((bt t192 x4_1) != 47) = true := bne_iff_ne.mpr c17
                              by_cases c18 : (bt t192 x4_1) = 38
                              · rw [if_pos c18] at H
                                have c18b0 : ((bt t192 x4_1) == 38) = true := beq_iff_eq.mpr c18
                                have c18b1 : ((bt t192 x4_1) != 38) = false := bne_eq_false_iff_eq.mpr c18
                                clear c18
                                obtain rfl := Option.some.inj H
                                have p8 : 0 ≤ (x4_1 : Int) := of_decide_eq_true (by first | (with_reducible assumption) | assumption)
                                have q8 : x4_1 < (t192.size : Int) := of_decide_eq_true (by first | (with_reducible assumption) | assumption)
                                have hx8 := bt_at t192 x4_1
                                replace p8 := eq_true p8
                                replace q8 := eq_true q8
                                go_wp2
                                go_ret
                                exact ⟨by first | rfl | (simp [errW_none, errW_some] <;> rfl) | (simp [*, errW_none, errW_some] <;> rfl), by repeat (first | (with_reducible first | exact HB.out | apply below_alloc | apply pw_below_drewN | apply below_drew1) | exact HB.out)⟩
                              · rw [if_neg c18] at H
                                have c18b0 : ((bt t192 x4_1) == 38) = false := beq_eq_false_iff_ne.mpr c18
                                have c18b1 : ((bt t192 x4_1) != 38) = true := bne_iff_ne.mpr c18
                                by_cases c19 : (bt t192 x4_1) = 10
                                · rw [if_pos c19] at H
                                  have c19b0 : ((bt t192 x4_1) == 10) = true := beq_iff_eq.mpr c19
                                  have c19b1 : ((bt t192 x4_1) != 10) = false := bne_eq_false_iff_eq.mpr c19
                                  clear c19
                                  obtain rfl := Option.some.inj H
                                  have p8 : 0 ≤ (x4_1 : Int) := of_decide_eq_true (by first | (with_reducible assumption) | assumption)
                                  have q8 : x4_1 < (t192.size : Int) := of_decide_eq_true (by first | (with_reducible assumption) | assumption)
                                  have hx8 := bt_at t192 x4_1
                                  replace p8 := eq_true p8
                                  replace q8 := eq_true q8
                                  go_wp2
                                  go_ret
                                  exact ⟨by first | rfl | (simp [errW_none, errW_some] <;> rfl) | (simp [*, errW_none, errW_some] <;> rfl), by repeat (first | (with_reducible first | exact HB.out | apply below_alloc | apply pw_below_drewN | apply below_drew1) | exact HB.out)⟩
                                · rw [if_neg c19] at H
                                  have c19b0 : ((bt t192 x4_1) == 10) = false := beq_eq_false_iff_ne.mpr c19
                                  have c19b1 : ((bt t192 x4_1) != 10) = true := bne_iff_ne.mpr c19
                                  have H' := Aside0.mk H
                                  clear H
                                  have p8 : 0 ≤ (x4_1 : Int) := of_decide_eq_true (by first | (with_reducible assumption) | assumption)
                                  have q8 : x4_1 < (t192.size : Int) := of_decide_eq_true (by first | (with_reducible assumption) | assumption)
                                  have hx8 := bt_at t192 x4_1
                                  replace p8 := eq_true p8
                                  replace q8 := eq_true q8
                                  go_wp2
                                  go_roundg k1
                                  case measure => have := HK1.out; omega
                                  case rel => exact ⟨(wrap64 (x4_1 + 1)), (by first | rfl | (simp; done) | (simp [*]; done)), H', ⟨by have := HK1.out; omega⟩, ⟨by repeat (first | (with_reducible first | exact HB.out | apply below_alloc | apply pw_below_drewN | apply below_drew1) | exact HB.out)⟩⟩
          · rw [if_neg c7] at H
            exact absurd H (by simp)
        · rw [if_neg c6] at H
          have c6b0 : decide (x4_1 < (t192.size : Int)) = false := decide_eq_false c6
          clear c6
          replace H := Option.bind_eq_some_iff.mp H
          obtain ⟨t193, A200, H⟩ := H
          replace H : (if t193.toList = t192.toList then ((muslinlaw17_live.f k1).bind fun t194 => (some t194)) else (some false)) = some r := H
          have A20 := Aside0.mk A200
          clear A200
          by_cases c21 : t193.toList = t192.toList
          · rw [if_pos c21] at H
            have c21b0 : (t193.toList == t192.toList) = true := beq_iff_eq.mpr c21
            have c21b1 : (t193.toList != t192.toList) = false := bne_eq_false_iff_eq.mpr c21
            clear c21
            replace H := Option.bind_eq_some_iff.mp H
            obtain ⟨t194, A220, H⟩ := H
            replace H : (some t194) = some r := H
            have A22 := Aside0.mk A220
            clear A220
            obtain rfl := Option.some.inj H
            go_wp2_with (first | ((with_reducible refine gate_callee (f := 14) rfl ?_); refine goesL_ (some 33) rfl rfl Tryd.func14 (by kernel_rfl) rfl #[.string t192] rfl (by (try simp only [List.map_toArray, List.map_cons, List.map_nil]); first | done | rfl | (simp only [List.length_drop, List.length_take]; rfl)) ?_; (with_reducible refine (css_Clean.calls t192 t193 _ A20.out (NmAt.below HN.out (by repeat (first | (with_reducible first | exact HB.out | apply below_alloc | apply pw_below_drewN | apply below_drew1) | exact HB.out)))).mono ?_); rintro e w23 ⟨rfl, hb⟩; refine ⟨_, rfl, ?_⟩; have n0_ := Aside0.mk (below_step (by repeat (first | (with_reducible first | exact HB.out | apply below_alloc | apply pw_below_drewN | apply below_drew1) | exact HB.out)) hb); clear HB; have HB := n0_; clear n0_; (try clear hb); (try clear hb2); (try clear hk); (try clear hi)) | (go_at_call 10; (with_reducible refine (muslinlaw17_live.calls k1  t194 _ A22.out (NmAt.below HN.out (by repeat (first | (with_reducible first | exact HB.out | apply below_alloc | apply pw_below_drewN | apply below_drew1) | exact HB.out)))).mono ?_); rintro e w24 ⟨rfl, hb⟩; have n0_ := Aside0.mk (below_step (by repeat (first | (with_reducible first | exact HB.out | apply below_alloc | apply pw_below_drewN | apply below_drew1) | exact HB.out)) hb); clear HB; have HB := n0_; clear n0_; (try clear hb); (try clear hb2); (try clear hk); (try clear hi)))
            go_ret
            exact ⟨by first | rfl | (simp [errW_none, errW_some] <;> rfl) | (simp [*, errW_none, errW_some] <;> rfl), by repeat (first | (with_reducible first | exact HB.out | apply below_alloc | apply pw_below_drewN | apply below_drew1) | exact HB.out)⟩
          · rw [if_neg c21] at H
            have c21b0 : (t193.toList == t192.toList) = false := beq_eq_false_iff_ne.mpr c21
            have c21b1 : (t193.toList != t192.toList) = true := bne_iff_ne.mpr c21
            obtain rfl := Option.some.inj H
            go_wp2_with (first | ((with_reducible refine gate_callee (f := 14) rfl ?_); refine goesL_ (some 33) rfl rfl Tryd.func14 (by kernel_rfl) rfl #[.string t192] rfl (by (try simp only [List.map_toArray, List.map_cons, List.map_nil]); first | done | rfl | (simp only [List.length_drop, List.length_take]; rfl)) ?_; (with_reducible refine (css_Clean.calls t192 t193 _ A20.out (NmAt.below HN.out (by repeat (first | (with_reducible first | exact HB.out | apply below_alloc | apply pw_below_drewN | apply below_drew1) | exact HB.out)))).mono ?_); rintro e w25 ⟨rfl, hb⟩; refine ⟨_, rfl, ?_⟩; have n0_ := Aside0.mk (below_step (by repeat (first | (with_reducible first | exact HB.out | apply below_alloc | apply pw_below_drewN | apply below_drew1) | exact HB.out)) hb); clear HB; have HB := n0_; clear n0_; (try clear hb); (try clear hb2); (try clear hk); (try clear hi)))
            go_ret
            exact ⟨by first | rfl | (simp [errW_none, errW_some] <;> rfl) | (simp [*, errW_none, errW_some] <;> rfl), by repeat (first | (with_reducible first | exact HB.out | apply below_alloc | apply pw_below_drewN | apply below_drew1) | exact HB.out)⟩
  · replace c3 := Bool.eq_false_iff.mpr c3
    subst c3
    have H1 : ((muslinlaw17_live.f k).bind fun t191 => (some t191)) = some r := by rw [if_neg (show ¬ (false = true) by decide)] at H; exact H
    clear H
    have H := H1
    clear H1
    replace H := Option.bind_eq_some_iff.mp H
    obtain ⟨t191, A260, H⟩ := H
    replace H : (some t191) = some r := H
    have A26 := Aside0.mk A260
    clear A260
    obtain rfl := Option.some.inj H
    go_enter Tryd.func5, Tryd.ntmps5
    go_wp2_with (first | ((with_reducible refine gate_callee (f := 9) rfl ?_); refine goesL_ (some 6) rfl rfl Tryd.func9 (by kernel_rfl) rfl #[.string a0] rfl (by (try simp only [List.map_toArray, List.map_cons, List.map_nil]); first | done | rfl | (simp only [List.length_drop, List.length_take]; rfl)) ?_; (with_reducible refine (muslinlaw17_short.calls a0 false _ A2.out).mono ?_); rintro e w' ⟨rfl, ⟨nd, rfl⟩⟩; refine ⟨_, rfl, ?_⟩) | ((with_reducible refine gate_callee (f := 10) rfl ?_); refine goesL_ (some 8) rfl rfl Tryd.func10 (by kernel_rfl) rfl #[] rfl (by (try simp only [List.map_toArray, List.map_cons, List.map_nil]); first | done | rfl | (simp only [List.length_drop, List.length_take]; rfl)) ?_; (with_reducible refine (muslinlaw17_live.calls k  t191 _ A26.out (NmAt.below HN.out (by repeat (first | (with_reducible first | exact HB.out | apply below_alloc | apply pw_below_drewN | apply below_drew1) | exact HB.out)))).mono ?_); rintro e w27 ⟨rfl, hb⟩; refine ⟨_, rfl, ?_⟩; have n0_ := Aside0.mk (below_step (by repeat (first | (with_reducible first | exact HB.out | apply below_alloc | apply pw_below_drewN | apply below_drew1) | exact HB.out)) hb); clear HB; have HB := n0_; clear n0_; (try clear hb); (try clear hb2); (try clear hk); (try clear hi)))
    go_ret
    exact ⟨by first | rfl | (simp [errW_none, errW_some] <;> rfl) | (simp [*, errW_none, errW_some] <;> rfl), by repeat (first | (with_reducible first | exact HB.out | apply below_alloc | apply pw_below_drewN | apply below_drew1) | exact HB.out)⟩

/-- THE ONE PURE STATEMENT of muslinlaw17_CssStays: yours. -/
def muslinlaw17_CssStays.Pure : Prop := ∀ (a0 : ByteArray), a0.size ≤ 140737488351232 → ∃ k, muslinlaw17_CssStays.f k a0 = some true
theorem muslinlaw17_CssStays.walk (P : muslinlaw17_CssStays.Pure) (a0 : ByteArray) (w : World) (w0 : a0.size ≤ 140737488351232) (hN : NmAt w) :
    Calls Tryd.prog 5 #[.string a0] w fun e w' => e = .returned (.bool true) ∧ Below w.heap.size w w' := by
  obtain ⟨k, h⟩ := P a0 w0
  refine (muslinlaw17_CssStays.calls k a0 true w h hN).mono ?_
  rintro e w' ⟨rfl, hd⟩
  exact ⟨rfl, hd⟩

end Go.Proofs.YtollfaphadcnnaaDoor.Pr
