/- Written by a program of this session (printx.py), with functions proved by hand counted as printed; Lean checks it. -/
import Derived.Test.YthnbhcmekkadeaaPrx0
import Derived.Test.YthnbhcmekkadeaaPrx2
import Derived.Test.YthnbhcmekkadeaaPrx3
import Derived.Test.YthnbhcmekkadeaaPrx4
import Derived.Test.YthnbhcmekkadeaaPrx5
import Derived.Test.YthnbhcmekkadeaaPrx6
namespace Go.Proofs.Ythnbhcmekkadeaa.Pr
open Go.RowKit Go.Proofs.YthnbhcmekkadeaaW.PrintWords Go.Proofs.YthnbhcmekkadeaaW.PrintLast Go.Proofs.YthnbhcmekkadeaaW.PrintMore
attribute [local go_sem] max2_int min2_int max_two min_two max_three min_three max_four min_four   -- for this text's walks alone
set_option linter.unusedVariables false
set_option linter.unusedSimpArgs false

private theorem sz_2 (a0 a1 : UInt8) : (⟨#[a0, a1]⟩ : ByteArray).size = 2 := rfl

/-! ### muslinlaw20_PlainQuoted: function 7 -/
mutual
def muslinlaw20_PlainQuoted.l0 : Nat → ByteArray → List ByteArray → ByteArray → Int → Option (Bool)
  | 0, _, _, _, _ => none
  | k + 1, x0, x3, x4, x5 => if x5 < (x3.length : Int) then (if 0 ≤ x5 then ((plain_Level.f k (rdOf ByteArray.empty x3 x5)).bind fun bt267 => (if bt267.1 > 18 then ((muslinlaw20_live.f k).bind fun t269 => (some t269)) else (muslinlaw20_PlainQuoted.l1 k x0 x3 x4 x5 0))) else (none)) else ((plain_Tree.f k x0).bind fun t274 => ((plain_Tree.f k x4).bind fun t277 => (if (x3.length : Int) = 0 then (if (t277.length : Int) = 0 then ((muslinlaw20_live.f k).bind fun t280 => (some t280)) else (some false)) else (if (t277.length : Int) = 1 then (if 0 < (t277.length : Int) then (if ((rd_T36 t277 0).f0).toList = ([98, 108, 111, 99, 107, 113, 117, 111, 116, 101] : List UInt8) then ((muslinref14_Same.f k ((rd_T36 t277 0).f3) t274).bind fun t283 => (if t283 = true then ((muslinlaw20_live.f k).bind fun t284 => (some t284)) else (some false))) else (some false)) else (none)) else (some false)))))
def muslinlaw20_PlainQuoted.l1 : Nat → ByteArray → List ByteArray → ByteArray → Int → Int → Option (Bool)
  | 0, _, _, _, _, _ => none
  | k + 1, x0, x3, x4, x5, x8 => if 0 ≤ x5 then (if x5 < (x3.length : Int) then (if x8 < ((rdOf ByteArray.empty x3 x5).size : Int) then (if 0 ≤ x8 then (if (bt (rdOf ByteArray.empty x3 x5) x8) = 13 then ((muslinlaw20_live.f k).bind fun t272 => (some t272)) else (muslinlaw20_PlainQuoted.l1 k x0 x3 x4 x5 (wrap64 (x8 + 1)))) else (none)) else (if x4.size + 2 ≤ 9223372036854775807 then (if (x4 ++ (⟨#[62, 32]⟩ : ByteArray)).size + (rdOf ByteArray.empty x3 x5).size ≤ 9223372036854775807 then (if ((x4 ++ (⟨#[62, 32]⟩ : ByteArray)) ++ (rdOf ByteArray.empty x3 x5)).size + 1 ≤ 9223372036854775807 then (muslinlaw20_PlainQuoted.l0 k x0 x3 (((x4 ++ (⟨#[62, 32]⟩ : ByteArray)) ++ (rdOf ByteArray.empty x3 x5)) ++ (⟨#[10]⟩ : ByteArray)) (wrap64 (x5 + 1))) else (none)) else (none)) else (none))) else (none)) else (none)
end
def muslinlaw20_PlainQuoted.f (k : Nat) (a0 : ByteArray) : Option (Bool) := if (a0.size : Int) > 2000 then ((muslinlaw20_live.f k).bind fun t262 => (some t262)) else ((muslinref06_Cut.f k a0).bind fun t263 => (muslinlaw20_PlainQuoted.l0 k a0 t263 (⟨#[]⟩ : ByteArray) 0))
theorem muslinlaw20_PlainQuoted.mono_l : ∀ k, (∀ y0 y1 y2 y3, LeO (muslinlaw20_PlainQuoted.l0 k y0 y1 y2 y3) (muslinlaw20_PlainQuoted.l0 (k + 1) y0 y1 y2 y3)) ∧ (∀ y0 y1 y2 y3 y4, LeO (muslinlaw20_PlainQuoted.l1 k y0 y1 y2 y3 y4) (muslinlaw20_PlainQuoted.l1 (k + 1) y0 y1 y2 y3 y4))
  | 0 => ⟨fun _ _ _ _ r h => by simp [muslinlaw20_PlainQuoted.l0] at h, fun _ _ _ _ _ r h => by simp [muslinlaw20_PlainQuoted.l1] at h⟩
  | k + 1 => by
    obtain ⟨ih0, ih1⟩ := muslinlaw20_PlainQuoted.mono_l k
    refine ⟨?_, ?_⟩
    · intro y0 y1 y2 y3
      unfold muslinlaw20_PlainQuoted.l0
      repeat' first
      | (with_reducible exact ih0 _ _ _ _)
      | (with_reducible exact ih1 _ _ _ _ _)
      | (with_reducible exact muslinlaw20_live.mono _)
      | (with_reducible exact muslinref06_Cut.mono _ _)
      | (with_reducible exact muslinref14_Same.mono _ _ _)
      | (with_reducible exact plain_Level.mono _ _)
      | (with_reducible exact plain_Tree.mono _ _)
      | (with_reducible exact LeO.refl _)
      | (with_reducible exact LeO.none _)
      | (with_reducible refine LeO.ite ?_ ?_)
      | (with_reducible refine LeO.bind ?_ (fun _ => ?_))
      | exact ih0 _ _ _ _
      | exact ih1 _ _ _ _ _
      | exact muslinlaw20_live.mono _
      | exact muslinref06_Cut.mono _ _
      | exact muslinref14_Same.mono _ _ _
      | exact plain_Level.mono _ _
      | exact plain_Tree.mono _ _
      | exact LeO.none _
      | refine LeO.ite ?_ ?_
      | refine LeO.bind ?_ (fun _ => ?_)
    · intro y0 y1 y2 y3 y4
      unfold muslinlaw20_PlainQuoted.l1
      repeat' first
      | (with_reducible exact ih0 _ _ _ _)
      | (with_reducible exact ih1 _ _ _ _ _)
      | (with_reducible exact muslinlaw20_live.mono _)
      | (with_reducible exact muslinref06_Cut.mono _ _)
      | (with_reducible exact muslinref14_Same.mono _ _ _)
      | (with_reducible exact plain_Level.mono _ _)
      | (with_reducible exact plain_Tree.mono _ _)
      | (with_reducible exact LeO.refl _)
      | (with_reducible exact LeO.none _)
      | (with_reducible refine LeO.ite ?_ ?_)
      | (with_reducible refine LeO.bind ?_ (fun _ => ?_))
      | exact ih0 _ _ _ _
      | exact ih1 _ _ _ _ _
      | exact muslinlaw20_live.mono _
      | exact muslinref06_Cut.mono _ _
      | exact muslinref14_Same.mono _ _ _
      | exact plain_Level.mono _ _
      | exact plain_Tree.mono _ _
      | exact LeO.none _
      | refine LeO.ite ?_ ?_
      | refine LeO.bind ?_ (fun _ => ?_)
theorem muslinlaw20_PlainQuoted.mono : ∀ a0 k, LeO (muslinlaw20_PlainQuoted.f k a0) (muslinlaw20_PlainQuoted.f (k + 1) a0) := by
  intro a0 k
  obtain ⟨ih0, ih1⟩ := muslinlaw20_PlainQuoted.mono_l k
  unfold muslinlaw20_PlainQuoted.f
  repeat' first
      | (with_reducible exact ih0 _ _ _ _)
      | (with_reducible exact ih1 _ _ _ _ _)
      | (with_reducible exact muslinlaw20_live.mono _)
      | (with_reducible exact muslinref06_Cut.mono _ _)
      | (with_reducible exact muslinref14_Same.mono _ _ _)
      | (with_reducible exact plain_Level.mono _ _)
      | (with_reducible exact plain_Tree.mono _ _)
      | (with_reducible exact LeO.refl _)
      | (with_reducible exact LeO.none _)
      | (with_reducible refine LeO.ite ?_ ?_)
      | (with_reducible refine LeO.bind ?_ (fun _ => ?_))
      | exact ih0 _ _ _ _
      | exact ih1 _ _ _ _ _
      | exact muslinlaw20_live.mono _
      | exact muslinref06_Cut.mono _ _
      | exact muslinref14_Same.mono _ _ _
      | exact plain_Level.mono _ _
      | exact plain_Tree.mono _ _
      | exact LeO.none _
      | refine LeO.ite ?_ ?_
      | refine LeO.bind ?_ (fun _ => ?_)
set_option maxHeartbeats 8000000 in
set_option maxRecDepth 100000 in
theorem muslinlaw20_PlainQuoted.calls (k : Nat) (a0 : ByteArray) (r : Bool) (w : World) (h : muslinlaw20_PlainQuoted.f k a0 = some r) :
    Calls Try.prog 7 #[.string a0] w fun e w' => e = .returned (.bool r) ∧ Below w.heap.size w w' := by
  have HB := Aside0.mk (Below.refl w.heap.size w)
  have H : (if (a0.size : Int) > 2000 then ((muslinlaw20_live.f k).bind fun t262 => (some t262)) else ((muslinref06_Cut.f k a0).bind fun t263 => (muslinlaw20_PlainQuoted.l0 k a0 t263 (⟨#[]⟩ : ByteArray) 0))) = some r := h
  clear h
  by_cases c2 : (a0.size : Int) > 2000
  · rw [if_pos c2] at H
    have c2b0 : decide (2000 < (a0.size : Int)) = true := decide_eq_true c2
    have c2b1 : decide (2000 < a0.size) = true := decide_eq_true (by omega)
    clear c2
    replace H := Option.bind_eq_some_iff.mp H
    obtain ⟨t262, A30, H⟩ := H
    replace H : (some t262) = some r := H
    have A3 := Aside0.mk A30
    clear A30
    obtain rfl := Option.some.inj H
    go_enter Try.func7, Try.ntmps7
    go_wp2_with (first | ((with_reducible refine gate_callee (f := 9) rfl ?_); refine goesL_ (some 14) rfl rfl Try.func9 (by kernel_rfl) rfl #[] rfl (by (try simp only [List.map_toArray, List.map_cons, List.map_nil]); first | done | rfl | (simp only [List.length_drop, List.length_take]; rfl)) ?_; (with_reducible refine (muslinlaw20_live.calls k  t262 _ A3.out).mono ?_); rintro e w4 ⟨rfl, hb⟩; refine ⟨_, rfl, ?_⟩; have n0_ := Aside0.mk (below_step (by repeat (first | (with_reducible first | exact HB.out | apply below_alloc | apply pw_below_drewN | apply below_drew1) | exact HB.out)) hb); clear HB; have HB := n0_; clear n0_; (try clear hb); (try clear hb2); (try clear hk); (try clear hi)))
    go_ret
    exact ⟨by first | rfl | (simp [errW_none, errW_some] <;> rfl) | (simp [*, errW_none, errW_some] <;> rfl), by repeat (first | (with_reducible first | exact HB.out | apply below_alloc | apply pw_below_drewN | apply below_drew1) | exact HB.out)⟩
  · rw [if_neg c2] at H
    have c2b0 : decide (2000 < (a0.size : Int)) = false := decide_eq_false c2
    have c2b1 : decide (2000 < a0.size) = false := decide_eq_false (by omega)
    clear c2
    replace H := Option.bind_eq_some_iff.mp H
    obtain ⟨t263, A50, H⟩ := H
    replace H : (muslinlaw20_PlainQuoted.l0 k a0 t263 (⟨#[]⟩ : ByteArray) 0) = some r := H
    have A5 := Aside0.mk A50
    clear A50
    have H' := Aside0.mk H
    clear H
    go_enter Try.func7, Try.ntmps7
    go_wp2_with (first | ((with_reducible refine gate_callee (f := 18) rfl ?_); refine goesL_ (some 16) rfl rfl Try.func18 (by kernel_rfl) rfl #[.string a0] rfl (by (try simp only [List.map_toArray, List.map_cons, List.map_nil]); first | done | rfl | (simp only [List.length_drop, List.length_take]; rfl)) ?_; (with_reducible refine (muslinref06_Cut.calls k a0 t263 _ A5.out).mono ?_); rintro e w6 ⟨v264, rfl, ho0, hb⟩; refine ⟨_, rfl, ?_⟩; have n0_ := Aside0.mk (Kd.R_lower ho0 (below_size (by repeat (first | (with_reducible first | exact HB.out | apply below_alloc | apply pw_below_drewN | apply below_drew1) | exact HB.out)))); have n1_ := Aside0.mk (below_step (by repeat (first | (with_reducible first | exact HB.out | apply below_alloc | apply pw_below_drewN | apply below_drew1) | exact HB.out)) hb); clear HB; have HO265 := n0_; have HB := n1_; clear n0_ n1_; (try clear hb); (try clear hb2); (try clear hk); (try clear hi); (try clear ho0)))
    go_loopg [4, 5] k (fun kq v4 v5 w' => ∃ (x4_1 : ByteArray) (x5_1 : Int), v4 = .string x4_1 ∧ v5 = .int .i64 x5_1 ∧ Aside0 (muslinlaw20_PlainQuoted.l0 kq a0 t263 x4_1 x5_1 = some r) ∧ Aside0 (kq ≤ k) ∧ Aside0 (Kd.R Kd.string 9 w' w.heap.size (fun _ => True) v264 t263) ∧ Aside0 (Below w.heap.size w w'))
    case atStart => exact ⟨((⟨#[]⟩ : ByteArray)), (0), (by first | rfl | (simp; done) | (simp [*]; done)), (by first | rfl | (simp; done) | (simp [*]; done)), H', ⟨Nat.le_refl _⟩, ⟨by (with_reducible repeat (first | apply Kd.R_alloc | apply Kd.R_drewN | apply Kd.R_drew)); exact HO265.out⟩, ⟨by repeat (first | (with_reducible first | exact HB.out | apply below_alloc | apply pw_below_drewN | apply below_drew1) | exact HB.out)⟩⟩
    case round =>
      clear H'
      try clear c1
      try clear c2
      try clear c2b0
      try clear c2b1
      try clear p2
      obtain ⟨x4_1, x5_1, rfl, rfl, HA, HK1, HO_3, HB⟩ := hrel
      cases gk with
      | zero => exact absurd HA.out (by simp [muslinlaw20_PlainQuoted.l0])
      | succ k1 =>
        have H := HA.out
        clear HA
        simp only [muslinlaw20_PlainQuoted.l0] at H
        by_cases c7 : x5_1 < (t263.length : Int)
        · rw [if_pos c7] at H
          have c7b0 : decide (x5_1 < (t263.length : Int)) = true := decide_eq_true c7
          clear c7
          by_cases c8 : 0 ≤ x5_1
          · rw [if_pos c8] at H
            have c8b0 : decide (0 ≤ x5_1) = true := decide_eq_true c8
            clear c8
            replace H := Option.bind_eq_some_iff.mp H
            obtain ⟨⟨t267, t268⟩, A90, H⟩ := H
            replace H : (if t267 > 18 then ((muslinlaw20_live.f k1).bind fun t269 => (some t269)) else (muslinlaw20_PlainQuoted.l1 k1 a0 t263 x4_1 x5_1 0)) = some r := H
            have A9 := Aside0.mk A90
            clear A90
            by_cases c10 : t267 > 18
            · rw [if_pos c10] at H
              have c10b0 : decide (18 < t267) = true := decide_eq_true c10
              clear c10
              replace H := Option.bind_eq_some_iff.mp H
              obtain ⟨t269, A110, H⟩ := H
              replace H : (some t269) = some r := H
              have A11 := Aside0.mk A110
              clear A110
              obtain rfl := Option.some.inj H
              obtain ⟨Ao12, co12, eo12⟩ := Kd.R_slice HO_3.out
              subst eo12
              have p266 : 0 ≤ (x5_1 : Int) := of_decide_eq_true (by first | (with_reducible assumption) | assumption)
              have q266 : x5_1 < (t263.length : Int) := of_decide_eq_true (by first | (with_reducible assumption) | assumption)
              obtain ⟨ad266, e266, hx266_0⟩ := Kd.at_string (Kd.R_reads' HO_3.out).2.2 x5_1 p266 q266
              cases e266
              replace p266 := eq_true p266
              replace q266 := eq_true q266
              go_wp2_with (first | ((with_reducible refine gate_callee (f := 10) rfl ?_); refine goesL_ (some 28) rfl rfl Try.func10 (by kernel_rfl) rfl #[.string (rdOf ByteArray.empty t263 x5_1)] rfl (by (try simp only [List.map_toArray, List.map_cons, List.map_nil]); first | done | rfl | (simp only [List.length_drop, List.length_take]; rfl)) ?_; (with_reducible refine (plain_Level.calls k1 (rdOf ByteArray.empty t263 x5_1) t267 t268 _ A9.out).mono ?_); rintro e w' ⟨rfl, ⟨nd, rfl⟩⟩; refine ⟨_, rfl, ?_⟩) | ((with_reducible refine gate_callee (f := 9) rfl ?_); refine goesL_ (some 33) rfl rfl Try.func9 (by kernel_rfl) rfl #[] rfl (by (try simp only [List.map_toArray, List.map_cons, List.map_nil]); first | done | rfl | (simp only [List.length_drop, List.length_take]; rfl)) ?_; (with_reducible refine (muslinlaw20_live.calls k1  t269 _ A11.out).mono ?_); rintro e w13 ⟨rfl, hb⟩; refine ⟨_, rfl, ?_⟩; have n0_ := Aside0.mk (Kd.R_below (by (with_reducible repeat (first | apply Kd.R_alloc | apply Kd.R_drewN | apply Kd.R_drew)); exact HO_3.out) hb); have n1_ := Aside0.mk (below_step (by repeat (first | (with_reducible first | exact HB.out | apply below_alloc | apply pw_below_drewN | apply below_drew1) | exact HB.out)) hb); clear HO_3; clear HB; have HO_3 := n0_; have HB := n1_; clear n0_ n1_; (try clear hb); (try clear hb2); (try clear hk); (try clear hi)))
              go_ret
              exact ⟨by first | rfl | (simp [errW_none, errW_some] <;> rfl) | (simp [*, errW_none, errW_some] <;> rfl), by repeat (first | (with_reducible first | exact HB.out | apply below_alloc | apply pw_below_drewN | apply below_drew1) | exact HB.out)⟩
            · rw [if_neg c10] at H
              have c10b0 : decide (18 < t267) = false := decide_eq_false c10
              clear c10
              have H' := Aside0.mk H
              clear H
              obtain ⟨Ao14, co14, eo14⟩ := Kd.R_slice HO_3.out
              subst eo14
              have p266 : 0 ≤ (x5_1 : Int) := of_decide_eq_true (by first | (with_reducible assumption) | assumption)
              have q266 : x5_1 < (t263.length : Int) := of_decide_eq_true (by first | (with_reducible assumption) | assumption)
              obtain ⟨ad266, e266, hx266_0⟩ := Kd.at_string (Kd.R_reads' HO_3.out).2.2 x5_1 p266 q266
              cases e266
              replace p266 := eq_true p266
              replace q266 := eq_true q266
              go_wp2_with (first | ((with_reducible refine gate_callee (f := 10) rfl ?_); refine goesL_ (some 28) rfl rfl Try.func10 (by kernel_rfl) rfl #[.string (rdOf ByteArray.empty t263 x5_1)] rfl (by (try simp only [List.map_toArray, List.map_cons, List.map_nil]); first | done | rfl | (simp only [List.length_drop, List.length_take]; rfl)) ?_; (with_reducible refine (plain_Level.calls k1 (rdOf ByteArray.empty t263 x5_1) t267 t268 _ A9.out).mono ?_); rintro e w' ⟨rfl, ⟨nd, rfl⟩⟩; refine ⟨_, rfl, ?_⟩))
              go_loopg [8] k1 (fun kq v8 w' => ∃ (x8_2 : Int), v8 = .int .i64 x8_2 ∧ Aside0 (muslinlaw20_PlainQuoted.l1 kq a0 t263 x4_1 x5_1 x8_2 = some r) ∧ Aside0 (kq ≤ k1) ∧ Aside0 (Kd.R Kd.string 9 w' w.heap.size (fun _ => True) (.slice (some ad266) t263.length co14) t263) ∧ Aside0 (Below w.heap.size w w'))
              case atStart => exact ⟨(0), (by first | rfl | (simp; done) | (simp [*]; done)), H', ⟨Nat.le_refl _⟩, ⟨by (with_reducible repeat (first | apply Kd.R_alloc | apply Kd.R_drewN | apply Kd.R_drew)); exact HO_3.out⟩, ⟨by repeat (first | (with_reducible first | exact HB.out | apply below_alloc | apply pw_below_drewN | apply below_drew1) | exact HB.out)⟩⟩
              case round =>
                clear H'
                try clear c1
                try clear c2
                try clear c2b0
                try clear c2b1
                try clear p2
                try clear q2
                try clear hx2
                try clear c7
                try clear c7b0
                try clear c8
                try clear c8b0
                try clear c9
                try clear c10
                try clear c10b0
                try clear hx266_0
                try clear p2
                try clear p266
                try clear q266
                obtain ⟨x8_2, rfl, HA, HK2, HO_3, HB⟩ := hrel
                cases gk with
                | zero => exact absurd HA.out (by simp [muslinlaw20_PlainQuoted.l1])
                | succ k2 =>
                  have H := HA.out
                  clear HA
                  simp only [muslinlaw20_PlainQuoted.l1] at H
                  by_cases c15 : 0 ≤ x5_1
                  · rw [if_pos c15] at H
                    have c15b0 : decide (0 ≤ x5_1) = true := decide_eq_true c15
                    clear c15
                    by_cases c16 : x5_1 < (t263.length : Int)
                    · rw [if_pos c16] at H
                      have c16b0 : decide (x5_1 < (t263.length : Int)) = true := decide_eq_true c16
                      clear c16
                      by_cases c17 : x8_2 < ((rdOf ByteArray.empty t263 x5_1).size : Int)
                      · rw [if_pos c17] at H
                        have c17b0 : decide (x8_2 < ((rdOf ByteArray.empty t263 x5_1).size : Int)) = true := decide_eq_true c17
                        clear c17
                        by_cases c18 : 0 ≤ x8_2
                        · rw [if_pos c18] at H
                          have c18b0 : decide (0 ≤ x8_2) = true := decide_eq_true c18
                          clear c18
                          by_cases c20 : (bt (rdOf ByteArray.empty t263 x5_1) x8_2) = 13
                          · rw [if_pos c20] at H
                            have c20b0 : ((bt (rdOf ByteArray.empty t263 x5_1) x8_2) == 13) = true := beq_iff_eq.mpr c20
                            have c20b1 : ((bt (rdOf ByteArray.empty t263 x5_1) x8_2) != 13) = false := bne_eq_false_iff_eq.mpr c20
                            clear c20
                            replace H := Option.bind_eq_some_iff.mp H
                            obtain ⟨t272, A210, H⟩ := H
                            replace H : (some t272) = some r := H
                            have A21 := Aside0.mk A210
                            clear A210
                            obtain rfl := Option.some.inj H
                            have p270 : 0 ≤ (x5_1 : Int) := of_decide_eq_true (by first | (with_reducible assumption) | assumption)
                            have q270 : x5_1 < (t263.length : Int) := of_decide_eq_true (by first | (with_reducible assumption) | assumption)
                            obtain ⟨ad270, e270, hx270_0⟩ := Kd.at_string (Kd.R_reads' HO_3.out).2.2 x5_1 p270 q270
                            obtain rfl : ad266 = ad270 := (by injection e270)
                            replace p270 := eq_true p270
                            replace q270 := eq_true q270
                            have p271 : 0 ≤ (x5_1 : Int) := of_decide_eq_true (by first | (with_reducible assumption) | assumption)
                            have q271 : x5_1 < (t263.length : Int) := of_decide_eq_true (by first | (with_reducible assumption) | assumption)
                            obtain ⟨ad271, e271, hx271_0⟩ := Kd.at_string (Kd.R_reads' HO_3.out).2.2 x5_1 p271 q271
                            obtain rfl : ad266 = ad271 := (by injection e271)
                            replace p271 := eq_true p271
                            replace q271 := eq_true q271
                            have p19 : 0 ≤ (x8_2 : Int) := of_decide_eq_true (by first | (with_reducible assumption) | assumption)
                            have q19 : x8_2 < ((rdOf ByteArray.empty t263 x5_1).size : Int) := of_decide_eq_true (by first | (with_reducible assumption) | assumption)
                            have hx19 := bt_at (rdOf ByteArray.empty t263 x5_1) x8_2
                            replace p19 := eq_true p19
                            replace q19 := eq_true q19
                            go_wp2_with (first | ((with_reducible refine gate_callee (f := 9) rfl ?_); refine goesL_ (some 50) rfl rfl Try.func9 (by kernel_rfl) rfl #[] rfl (by (try simp only [List.map_toArray, List.map_cons, List.map_nil]); first | done | rfl | (simp only [List.length_drop, List.length_take]; rfl)) ?_; (with_reducible refine (muslinlaw20_live.calls k2  t272 _ A21.out).mono ?_); rintro e w22 ⟨rfl, hb⟩; refine ⟨_, rfl, ?_⟩; have n0_ := Aside0.mk (Kd.R_below (by (with_reducible repeat (first | apply Kd.R_alloc | apply Kd.R_drewN | apply Kd.R_drew)); exact HO_3.out) hb); have n1_ := Aside0.mk (below_step (by repeat (first | (with_reducible first | exact HB.out | apply below_alloc | apply pw_below_drewN | apply below_drew1) | exact HB.out)) hb); clear HO_3; clear HB; have HO_3 := n0_; have HB := n1_; clear n0_ n1_; (try clear hb); (try clear hb2); (try clear hk); (try clear hi)))
                            go_ret
                            exact ⟨by first | rfl | (simp [errW_none, errW_some] <;> rfl) | (simp [*, errW_none, errW_some] <;> rfl), by repeat (first | (with_reducible first | exact HB.out | apply below_alloc | apply pw_below_drewN | apply below_drew1) | exact HB.out)⟩
                          · rw [if_neg c20] at H
                            have c20b0 : ((bt (rdOf ByteArray.empty t263 x5_1) x8_2) == 13) = false := beq_eq_false_iff_ne.mpr c20
                            have c20b1 : ((bt (rdOf ByteArray.empty t263 x5_1) x8_2) != 13) = true := bne_iff_ne.mpr c20
                            have H' := Aside0.mk H
                            clear H
                            have p270 : 0 ≤ (x5_1 : Int) := of_decide_eq_true (by first | (with_reducible assumption) | assumption)
                            have q270 : x5_1 < (t263.length : Int) := of_decide_eq_true (by first | (with_reducible assumption) | assumption)
                            obtain ⟨ad270, e270, hx270_0⟩ := Kd.at_string (Kd.R_reads' HO_3.out).2.2 x5_1 p270 q270
                            obtain rfl : ad266 = ad270 := (by injection e270)
                            replace p270 := eq_true p270
                            replace q270 := eq_true q270
                            have p271 : 0 ≤ (x5_1 : Int) := of_decide_eq_true (by first | (with_reducible assumption) | assumption)
                            have q271 : x5_1 < (t263.length : Int) := of_decide_eq_true (by first | (with_reducible assumption) | assumption)
                            obtain ⟨ad271, e271, hx271_0⟩ := Kd.at_string (Kd.R_reads' HO_3.out).2.2 x5_1 p271 q271
                            obtain rfl : ad266 = ad271 := (by injection e271)
                            replace p271 := eq_true p271
                            replace q271 := eq_true q271
                            have p19 : 0 ≤ (x8_2 : Int) := of_decide_eq_true (by first | (with_reducible assumption) | assumption)
                            have q19 : x8_2 < ((rdOf ByteArray.empty t263 x5_1).size : Int) := of_decide_eq_true (by first | (with_reducible assumption) | assumption)
                            have hx19 := bt_at (rdOf ByteArray.empty t263 x5_1) x8_2
                            replace p19 := eq_true p19
                            replace q19 := eq_true q19
                            go_wp2
                            go_roundg k2
                            case measure => have := HK1.out; have := HK2.out; omega
                            case rel => exact ⟨(wrap64 (x8_2 + 1)), (by first | rfl | (simp; done) | (simp [*]; done)), H', ⟨by have := HK1.out; have := HK2.out; omega⟩, ⟨by (with_reducible repeat (first | apply Kd.R_alloc | apply Kd.R_drewN | apply Kd.R_drew)); exact HO_3.out⟩, ⟨by repeat (first | (with_reducible first | exact HB.out | apply below_alloc | apply pw_below_drewN | apply below_drew1) | exact HB.out)⟩⟩
                        · rw [if_neg c18] at H
                          exact absurd H (by simp)
                      · rw [if_neg c17] at H
                        have c17b0 : decide (x8_2 < ((rdOf ByteArray.empty t263 x5_1).size : Int)) = false := decide_eq_false c17
                        clear c17
                        by_cases c23 : x4_1.size + 2 ≤ 9223372036854775807
                        · rw [if_pos c23] at H
                          have c23b0 := eq_true c23
                          have c23b1 : decide (x4_1.size + 2 ≤ 9223372036854775807) = true := decide_eq_true c23
                          try have c23b2 : (9223372036854775807 < x4_1.size + 2) = False := eq_false (Nat.not_lt.2 c23)
                          by_cases c24 : (x4_1 ++ (⟨#[62, 32]⟩ : ByteArray)).size + (rdOf ByteArray.empty t263 x5_1).size ≤ 9223372036854775807
                          · rw [if_pos c24] at H
                            have c24b0 := eq_true c24
                            have c24b1 : decide ((x4_1 ++ (⟨#[62, 32]⟩ : ByteArray)).size + (rdOf ByteArray.empty t263 x5_1).size ≤ 9223372036854775807) = true := decide_eq_true c24
                            have c24n := c24
                            simp only [ByteArray.size_append, sz_2] at c24n
                            have c24nb := eq_true c24n
                            have c24nc := eq_false (Nat.not_lt.2 c24n)
                            try have c24b2 : (9223372036854775807 < (x4_1 ++ (⟨#[62, 32]⟩ : ByteArray)).size + (rdOf ByteArray.empty t263 x5_1).size) = False := eq_false (Nat.not_lt.2 c24)
                            by_cases c25 : ((x4_1 ++ (⟨#[62, 32]⟩ : ByteArray)) ++ (rdOf ByteArray.empty t263 x5_1)).size + 1 ≤ 9223372036854775807
                            · rw [if_pos c25] at H
                              have c25b0 := eq_true c25
                              have c25b1 : decide (((x4_1 ++ (⟨#[62, 32]⟩ : ByteArray)) ++ (rdOf ByteArray.empty t263 x5_1)).size + 1 ≤ 9223372036854775807) = true := decide_eq_true c25
                              have c25n := c25
                              simp only [ByteArray.size_append, sz_2] at c25n
                              have c25nb := eq_true c25n
                              have c25nc := eq_false (Nat.not_lt.2 c25n)
                              try have c25b2 : (9223372036854775807 < ((x4_1 ++ (⟨#[62, 32]⟩ : ByteArray)) ++ (rdOf ByteArray.empty t263 x5_1)).size + 1) = False := eq_false (Nat.not_lt.2 c25)
                              have H' := Aside0.mk H
                              clear H
                              have p270 : 0 ≤ (x5_1 : Int) := of_decide_eq_true (by first | (with_reducible assumption) | assumption)
                              have q270 : x5_1 < (t263.length : Int) := of_decide_eq_true (by first | (with_reducible assumption) | assumption)
                              obtain ⟨ad270, e270, hx270_0⟩ := Kd.at_string (Kd.R_reads' HO_3.out).2.2 x5_1 p270 q270
                              obtain rfl : ad266 = ad270 := (by injection e270)
                              replace p270 := eq_true p270
                              replace q270 := eq_true q270
                              have p273 : 0 ≤ (x5_1 : Int) := of_decide_eq_true (by first | (with_reducible assumption) | assumption)
                              have q273 : x5_1 < (t263.length : Int) := of_decide_eq_true (by first | (with_reducible assumption) | assumption)
                              obtain ⟨ad273, e273, hx273_0⟩ := Kd.at_string (Kd.R_reads' HO_3.out).2.2 x5_1 p273 q273
                              obtain rfl : ad266 = ad273 := (by injection e273)
                              replace p273 := eq_true p273
                              replace q273 := eq_true q273
                              go_wp2
                              go_roundg k2
                              case measure => have := HK1.out; have := HK2.out; omega
                              case rel => exact ⟨(((x4_1 ++ (⟨#[62, 32]⟩ : ByteArray)) ++ (rdOf ByteArray.empty t263 x5_1)) ++ (⟨#[10]⟩ : ByteArray)), (wrap64 (x5_1 + 1)), (by first | rfl | (simp; done) | (simp [*]; done)), (by first | rfl | (simp; done) | (simp [*]; done)), H', ⟨by have := HK1.out; have := HK2.out; omega⟩, ⟨by (with_reducible repeat (first | apply Kd.R_alloc | apply Kd.R_drewN | apply Kd.R_drew)); exact HO_3.out⟩, ⟨by repeat (first | (with_reducible first | exact HB.out | apply below_alloc | apply pw_below_drewN | apply below_drew1) | exact HB.out)⟩⟩
                            · rw [if_neg c25] at H
                              exact absurd H (by simp)
                          · rw [if_neg c24] at H
                            exact absurd H (by simp)
                        · rw [if_neg c23] at H
                          exact absurd H (by simp)
                    · rw [if_neg c16] at H
                      exact absurd H (by simp)
                  · rw [if_neg c15] at H
                    exact absurd H (by simp)
          · rw [if_neg c8] at H
            exact absurd H (by simp)
        · rw [if_neg c7] at H
          have c7b0 : decide (x5_1 < (t263.length : Int)) = false := decide_eq_false c7
          clear c7
          replace H := Option.bind_eq_some_iff.mp H
          obtain ⟨t274, A260, H⟩ := H
          replace H : ((plain_Tree.f k1 x4_1).bind fun t277 => (if (t263.length : Int) = 0 then (if (t277.length : Int) = 0 then ((muslinlaw20_live.f k1).bind fun t280 => (some t280)) else (some false)) else (if (t277.length : Int) = 1 then (if 0 < (t277.length : Int) then (if ((rd_T36 t277 0).f0).toList = ([98, 108, 111, 99, 107, 113, 117, 111, 116, 101] : List UInt8) then ((muslinref14_Same.f k1 ((rd_T36 t277 0).f3) t274).bind fun t283 => (if t283 = true then ((muslinlaw20_live.f k1).bind fun t284 => (some t284)) else (some false))) else (some false)) else (none)) else (some false)))) = some r := H
          have A26 := Aside0.mk A260
          clear A260
          replace H := Option.bind_eq_some_iff.mp H
          obtain ⟨t277, A270, H⟩ := H
          replace H : (if (t263.length : Int) = 0 then (if (t277.length : Int) = 0 then ((muslinlaw20_live.f k1).bind fun t280 => (some t280)) else (some false)) else (if (t277.length : Int) = 1 then (if 0 < (t277.length : Int) then (if ((rd_T36 t277 0).f0).toList = ([98, 108, 111, 99, 107, 113, 117, 111, 116, 101] : List UInt8) then ((muslinref14_Same.f k1 ((rd_T36 t277 0).f3) t274).bind fun t283 => (if t283 = true then ((muslinlaw20_live.f k1).bind fun t284 => (some t284)) else (some false))) else (some false)) else (none)) else (some false))) = some r := H
          have A27 := Aside0.mk A270
          clear A270
          by_cases c28 : (t263.length : Int) = 0
          · rw [if_pos c28] at H
            have c28b0 : ((t263.length : Int) == 0) = true := beq_iff_eq.mpr c28
            have c28b1 : ((t263.length : Int) != 0) = false := bne_eq_false_iff_eq.mpr c28
            clear c28
            by_cases c29 : (t277.length : Int) = 0
            · rw [if_pos c29] at H
              have c29b0 : ((t277.length : Int) == 0) = true := beq_iff_eq.mpr c29
              have c29b1 : ((t277.length : Int) != 0) = false := bne_eq_false_iff_eq.mpr c29
              clear c29
              replace H := Option.bind_eq_some_iff.mp H
              obtain ⟨t280, A300, H⟩ := H
              replace H : (some t280) = some r := H
              have A30 := Aside0.mk A300
              clear A300
              obtain rfl := Option.some.inj H
              obtain ⟨Ao31, co31, eo31⟩ := Kd.R_slice HO_3.out
              subst eo31
              go_wp2_with (first | ((with_reducible refine gate_callee (f := 13) rfl ?_); refine goesL_ (some 60) rfl rfl Try.func13 (by kernel_rfl) rfl #[.string a0] rfl (by (try simp only [List.map_toArray, List.map_cons, List.map_nil]); first | done | rfl | (simp only [List.length_drop, List.length_take]; rfl)) ?_; (with_reducible refine (plain_Tree.calls k1 a0 t274 _ A26.out).mono ?_); rintro e w32 ⟨v275, rfl, ho0, hb⟩; refine ⟨_, rfl, ?_⟩; have n0_ := Aside0.mk (Kd.R_below (by (with_reducible repeat (first | apply Kd.R_alloc | apply Kd.R_drewN | apply Kd.R_drew)); exact HO_3.out) hb); have n1_ := Aside0.mk (Kd.R_lower ho0 (below_size (by repeat (first | (with_reducible first | exact HB.out | apply below_alloc | apply pw_below_drewN | apply below_drew1) | exact HB.out)))); have n2_ := Aside0.mk (below_step (by repeat (first | (with_reducible first | exact HB.out | apply below_alloc | apply pw_below_drewN | apply below_drew1) | exact HB.out)) hb); clear HO_3; clear HB; have HO_3 := n0_; have HO276 := n1_; have HB := n2_; clear n0_ n1_ n2_; (try clear hb); (try clear hb2); (try clear hk); (try clear hi); (try clear ho0)) | ((with_reducible refine gate_callee (f := 13) rfl ?_); refine goesL_ (some 62) rfl rfl Try.func13 (by kernel_rfl) rfl #[.string x4_1] rfl (by (try simp only [List.map_toArray, List.map_cons, List.map_nil]); first | done | rfl | (simp only [List.length_drop, List.length_take]; rfl)) ?_; (with_reducible refine (plain_Tree.calls k1 x4_1 t277 _ A27.out).mono ?_); rintro e w33 ⟨v278, rfl, ho0, hb⟩; refine ⟨_, rfl, ?_⟩; have n0_ := Aside0.mk (Kd.R_below (by (with_reducible repeat (first | apply Kd.R_alloc | apply Kd.R_drewN | apply Kd.R_drew)); exact HO_3.out) hb); have n1_ := Aside0.mk (Kd.R_elder' (by (with_reducible repeat (first | apply Kd.R_alloc | apply Kd.R_drewN | apply Kd.R_drew)); exact HO276.out) (Kd.R_base ho0) hb); have n2_ := Aside0.mk (Kd.R_lower (Kd.R_new' ho0 (Kd.R_lt (by (with_reducible repeat (first | apply Kd.R_alloc | apply Kd.R_drewN | apply Kd.R_drew)); exact HO276.out))) (below_size (by repeat (first | (with_reducible first | exact HB.out | apply below_alloc | apply pw_below_drewN | apply below_drew1) | exact HB.out)))); have n3_ := Aside0.mk (below_step (by repeat (first | (with_reducible first | exact HB.out | apply below_alloc | apply pw_below_drewN | apply below_drew1) | exact HB.out)) hb); clear HO_3; clear HO276; clear HB; have HO_3 := n0_; have HO276 := n1_; have HO279 := n2_; have HB := n3_; clear n0_ n1_ n2_ n3_; (try clear hb); (try clear hb2); (try clear hk); (try clear hi); (try clear ho0); obtain ⟨Ao34, co34, eo34⟩ := Kd.R_slice HO279.out; subst eo34) | (go_at_call 9; (with_reducible refine (muslinlaw20_live.calls k1  t280 _ A30.out).mono ?_); rintro e w35 ⟨rfl, hb⟩; have n0_ := Aside0.mk (Kd.R_below (by (with_reducible repeat (first | apply Kd.R_alloc | apply Kd.R_drewN | apply Kd.R_drew)); exact HO_3.out) hb); have n1_ := Aside0.mk (Kd.R_below (by (with_reducible repeat (first | apply Kd.R_alloc | apply Kd.R_drewN | apply Kd.R_drew)); exact HO276.out) hb); have n2_ := Aside0.mk (Kd.R_below (by (with_reducible repeat (first | apply Kd.R_alloc | apply Kd.R_drewN | apply Kd.R_drew)); exact HO279.out) hb); have n3_ := Aside0.mk (below_step (by repeat (first | (with_reducible first | exact HB.out | apply below_alloc | apply pw_below_drewN | apply below_drew1) | exact HB.out)) hb); clear HO_3; clear HO276; clear HO279; clear HB; have HO_3 := n0_; have HO276 := n1_; have HO279 := n2_; have HB := n3_; clear n0_ n1_ n2_ n3_; (try clear hb); (try clear hb2); (try clear hk); (try clear hi)))
              go_ret
              exact ⟨by first | rfl | (simp [errW_none, errW_some] <;> rfl) | (simp [*, errW_none, errW_some] <;> rfl), by repeat (first | (with_reducible first | exact HB.out | apply below_alloc | apply pw_below_drewN | apply below_drew1) | exact HB.out)⟩
            · rw [if_neg c29] at H
              have c29b0 : ((t277.length : Int) == 0) = false := beq_eq_false_iff_ne.mpr c29
              have c29b1 : ((t277.length : Int) != 0) = true := bne_iff_ne.mpr c29
              have c29b2 : ¬ (t277 = []) := fun h_ => c29 (by rw [h_]; rfl)
              obtain rfl := Option.some.inj H
              obtain ⟨Ao36, co36, eo36⟩ := Kd.R_slice HO_3.out
              subst eo36
              go_wp2_with (first | ((with_reducible refine gate_callee (f := 13) rfl ?_); refine goesL_ (some 60) rfl rfl Try.func13 (by kernel_rfl) rfl #[.string a0] rfl (by (try simp only [List.map_toArray, List.map_cons, List.map_nil]); first | done | rfl | (simp only [List.length_drop, List.length_take]; rfl)) ?_; (with_reducible refine (plain_Tree.calls k1 a0 t274 _ A26.out).mono ?_); rintro e w37 ⟨v275, rfl, ho0, hb⟩; refine ⟨_, rfl, ?_⟩; have n0_ := Aside0.mk (Kd.R_below (by (with_reducible repeat (first | apply Kd.R_alloc | apply Kd.R_drewN | apply Kd.R_drew)); exact HO_3.out) hb); have n1_ := Aside0.mk (Kd.R_lower ho0 (below_size (by repeat (first | (with_reducible first | exact HB.out | apply below_alloc | apply pw_below_drewN | apply below_drew1) | exact HB.out)))); have n2_ := Aside0.mk (below_step (by repeat (first | (with_reducible first | exact HB.out | apply below_alloc | apply pw_below_drewN | apply below_drew1) | exact HB.out)) hb); clear HO_3; clear HB; have HO_3 := n0_; have HO276 := n1_; have HB := n2_; clear n0_ n1_ n2_; (try clear hb); (try clear hb2); (try clear hk); (try clear hi); (try clear ho0)) | ((with_reducible refine gate_callee (f := 13) rfl ?_); refine goesL_ (some 62) rfl rfl Try.func13 (by kernel_rfl) rfl #[.string x4_1] rfl (by (try simp only [List.map_toArray, List.map_cons, List.map_nil]); first | done | rfl | (simp only [List.length_drop, List.length_take]; rfl)) ?_; (with_reducible refine (plain_Tree.calls k1 x4_1 t277 _ A27.out).mono ?_); rintro e w38 ⟨v278, rfl, ho0, hb⟩; refine ⟨_, rfl, ?_⟩; have n0_ := Aside0.mk (Kd.R_below (by (with_reducible repeat (first | apply Kd.R_alloc | apply Kd.R_drewN | apply Kd.R_drew)); exact HO_3.out) hb); have n1_ := Aside0.mk (Kd.R_elder' (by (with_reducible repeat (first | apply Kd.R_alloc | apply Kd.R_drewN | apply Kd.R_drew)); exact HO276.out) (Kd.R_base ho0) hb); have n2_ := Aside0.mk (Kd.R_lower (Kd.R_new' ho0 (Kd.R_lt (by (with_reducible repeat (first | apply Kd.R_alloc | apply Kd.R_drewN | apply Kd.R_drew)); exact HO276.out))) (below_size (by repeat (first | (with_reducible first | exact HB.out | apply below_alloc | apply pw_below_drewN | apply below_drew1) | exact HB.out)))); have n3_ := Aside0.mk (below_step (by repeat (first | (with_reducible first | exact HB.out | apply below_alloc | apply pw_below_drewN | apply below_drew1) | exact HB.out)) hb); clear HO_3; clear HO276; clear HB; have HO_3 := n0_; have HO276 := n1_; have HO279 := n2_; have HB := n3_; clear n0_ n1_ n2_ n3_; (try clear hb); (try clear hb2); (try clear hk); (try clear hi); (try clear ho0); obtain ⟨Ao39, co39, eo39⟩ := Kd.R_slice HO279.out; subst eo39))
              go_ret
              exact ⟨by first | rfl | (simp [errW_none, errW_some] <;> rfl) | (simp [*, errW_none, errW_some] <;> rfl), by repeat (first | (with_reducible first | exact HB.out | apply below_alloc | apply pw_below_drewN | apply below_drew1) | exact HB.out)⟩
          · rw [if_neg c28] at H
            have c28b0 : ((t263.length : Int) == 0) = false := beq_eq_false_iff_ne.mpr c28
            have c28b1 : ((t263.length : Int) != 0) = true := bne_iff_ne.mpr c28
            have c28b2 : ¬ (t263 = []) := fun h_ => c28 (by rw [h_]; rfl)
            by_cases c40 : (t277.length : Int) = 1
            · rw [if_pos c40] at H
              have c40b0 : ((t277.length : Int) == 1) = true := beq_iff_eq.mpr c40
              have c40b1 : ((t277.length : Int) != 1) = false := bne_eq_false_iff_eq.mpr c40
              clear c40
              by_cases c41 : 0 < (t277.length : Int)
              · rw [if_pos c41] at H
                have c41b0 : decide (0 < (t277.length : Int)) = true := decide_eq_true c41
                have c41b1 : decide (0 < t277.length) = true := decide_eq_true (by omega)
                clear c41
                by_cases c42 : ((rd_T36 t277 0).f0).toList = ([98, 108, 111, 99, 107, 113, 117, 111, 116, 101] : List UInt8)
                · rw [if_pos c42] at H
                  have c42b0 : (((rd_T36 t277 0).f0).toList == ([98, 108, 111, 99, 107, 113, 117, 111, 116, 101] : List UInt8)) = true := beq_iff_eq.mpr c42
                  have c42b1 : (((rd_T36 t277 0).f0).toList != ([98, 108, 111, 99, 107, 113, 117, 111, 116, 101] : List UInt8)) = false := bne_eq_false_iff_eq.mpr c42
                  clear c42
                  replace H := Option.bind_eq_some_iff.mp H
                  obtain ⟨t283, A430, H⟩ := H
                  replace H : (if t283 = true then ((muslinlaw20_live.f k1).bind fun t284 => (some t284)) else (some false)) = some r := H
                  have A43 := Aside0.mk A430
                  clear A430
                  by_cases c44 : t283 = true
                  · subst c44
                    have H1 : ((muslinlaw20_live.f k1).bind fun t284 => (some t284)) = some r := by rw [if_pos rfl] at H; exact H
                    clear H
                    have H := H1
                    clear H1
                    replace H := Option.bind_eq_some_iff.mp H
                    obtain ⟨t284, A450, H⟩ := H
                    replace H : (some t284) = some r := H
                    have A45 := Aside0.mk A450
                    clear A450
                    obtain rfl := Option.some.inj H
                    obtain ⟨Ao46, co46, eo46⟩ := Kd.R_slice HO_3.out
                    subst eo46
                    go_wp2_with (first | ((with_reducible refine gate_callee (f := 13) rfl ?_); refine goesL_ (some 60) rfl rfl Try.func13 (by kernel_rfl) rfl #[.string a0] rfl (by (try simp only [List.map_toArray, List.map_cons, List.map_nil]); first | done | rfl | (simp only [List.length_drop, List.length_take]; rfl)) ?_; (with_reducible refine (plain_Tree.calls k1 a0 t274 _ A26.out).mono ?_); rintro e w47 ⟨v275, rfl, ho0, hb⟩; refine ⟨_, rfl, ?_⟩; have n0_ := Aside0.mk (Kd.R_below (by (with_reducible repeat (first | apply Kd.R_alloc | apply Kd.R_drewN | apply Kd.R_drew)); exact HO_3.out) hb); have n1_ := Aside0.mk (Kd.R_lower ho0 (below_size (by repeat (first | (with_reducible first | exact HB.out | apply below_alloc | apply pw_below_drewN | apply below_drew1) | exact HB.out)))); have n2_ := Aside0.mk (below_step (by repeat (first | (with_reducible first | exact HB.out | apply below_alloc | apply pw_below_drewN | apply below_drew1) | exact HB.out)) hb); clear HO_3; clear HB; have HO_3 := n0_; have HO276 := n1_; have HB := n2_; clear n0_ n1_ n2_; (try clear hb); (try clear hb2); (try clear hk); (try clear hi); (try clear ho0)) | ((with_reducible refine gate_callee (f := 13) rfl ?_); refine goesL_ (some 62) rfl rfl Try.func13 (by kernel_rfl) rfl #[.string x4_1] rfl (by (try simp only [List.map_toArray, List.map_cons, List.map_nil]); first | done | rfl | (simp only [List.length_drop, List.length_take]; rfl)) ?_; (with_reducible refine (plain_Tree.calls k1 x4_1 t277 _ A27.out).mono ?_); rintro e w48 ⟨v278, rfl, ho0, hb⟩; refine ⟨_, rfl, ?_⟩; have n0_ := Aside0.mk (Kd.R_below (by (with_reducible repeat (first | apply Kd.R_alloc | apply Kd.R_drewN | apply Kd.R_drew)); exact HO_3.out) hb); have n1_ := Aside0.mk (Kd.R_elder' (by (with_reducible repeat (first | apply Kd.R_alloc | apply Kd.R_drewN | apply Kd.R_drew)); exact HO276.out) (Kd.R_base ho0) hb); have n2_ := Aside0.mk (Kd.R_lower (Kd.R_new' ho0 (Kd.R_lt (by (with_reducible repeat (first | apply Kd.R_alloc | apply Kd.R_drewN | apply Kd.R_drew)); exact HO276.out))) (below_size (by repeat (first | (with_reducible first | exact HB.out | apply below_alloc | apply pw_below_drewN | apply below_drew1) | exact HB.out)))); have n3_ := Aside0.mk (below_step (by repeat (first | (with_reducible first | exact HB.out | apply below_alloc | apply pw_below_drewN | apply below_drew1) | exact HB.out)) hb); clear HO_3; clear HO276; clear HB; have HO_3 := n0_; have HO276 := n1_; have HO279 := n2_; have HB := n3_; clear n0_ n1_ n2_ n3_; (try clear hb); (try clear hb2); (try clear hk); (try clear hi); (try clear ho0); obtain ⟨Ao49, co49, eo49⟩ := Kd.R_slice HO279.out; subst eo49; have p281 : 0 ≤ (0 : Int) := (by omega); have q281 : 0 < (t277.length : Int) := of_decide_eq_true (by first | (with_reducible assumption) | assumption); obtain ⟨ad281, A281_1, c281_1, A281_3, c281_3, e281, hx281_0, hx281_1, hx281_2, hx281_3, hl281_1, hi281_1, hl281_3, hi281_3⟩ := at_T36 (Kd.R_reads' HO279.out).2.2 0 p281 q281; cases e281; obtain ⟨ce281, hce281, hMe281, hcc281⟩ := Kd.R_get HO279.out z36 0 p281 (by first | exact q281 | exact of_decide_eq_true (by first | (with_reducible assumption) | assumption) | (have e_ := (Kd.R_reads' HO279.out).1; omega)); obtain ⟨ve281_1, ve281_3, rfl, ge281_1, ge281_3⟩ := k36_openM hMe281; have hv281_1 := hcc281 1 _ rfl; rw [add_field _ _ 1 (by omega)] at hv281_1; replace hv281_1 := Option.some.inj (hv281_1.symm.trans hx281_1); rw [hv281_1] at ge281_1; have HL281_1 := Aside0.mk (show Kd.R k51 51 _ _ _ _ ((rd_T36 t277 0).f1) from ge281_1); clear hv281_1 ge281_1; have hv281_3 := hcc281 3 _ rfl; rw [add_field _ _ 3 (by omega)] at hv281_3; replace hv281_3 := Option.some.inj (hv281_3.symm.trans hx281_3); rw [hv281_3] at ge281_3; have HL281_3 := Aside0.mk (show Kd.R k36 36 _ _ _ _ ((rd_T36 t277 0).f3) from ge281_3); clear hv281_3 ge281_3; clear hcc281 hce281; have qi281 : (0 < t277.length) = True := eq_true (by omega); (try rw [show ((0 : Int)).toNat = 0 from rfl] at hx281_0); (try rw [show 0 * 4 = 0 from rfl] at hx281_0); (try rw [Addr.add_zero'] at hx281_0); (try rw [show ((0 : Int)).toNat = 0 from rfl] at hx281_1); (try rw [show 0 * 4 = 0 from rfl] at hx281_1); (try rw [Addr.add_zero'] at hx281_1); (try rw [show ((0 : Int)).toNat = 0 from rfl] at hx281_2); (try rw [show 0 * 4 = 0 from rfl] at hx281_2); (try rw [Addr.add_zero'] at hx281_2); (try rw [show ((0 : Int)).toNat = 0 from rfl] at hx281_3); (try rw [show 0 * 4 = 0 from rfl] at hx281_3); (try rw [Addr.add_zero'] at hx281_3); have HR281_1 := Aside0.mk hi281_1; have HC281_1 := Aside0.mk hl281_1; clear hi281_1 hl281_1; have HR281_3 := Aside0.mk hi281_3; have HC281_3 := Aside0.mk hl281_3; clear hi281_3 hl281_3; replace p281 := eq_true p281; replace q281 := eq_true q281; have p282 : 0 ≤ (0 : Int) := (by omega); have q282 : 0 < (t277.length : Int) := of_decide_eq_true (by first | (with_reducible assumption) | assumption); obtain ⟨ad282, A282_1, c282_1, A282_3, c282_3, e282, hx282_0, hx282_1, hx282_2, hx282_3, hl282_1, hi282_1, hl282_3, hi282_3⟩ := at_T36 (Kd.R_reads' HO279.out).2.2 0 p282 q282; obtain rfl : ad281 = ad282 := (by injection e282); obtain ⟨ce282, hce282, hMe282, hcc282⟩ := Kd.R_get HO279.out z36 0 p282 (by first | exact q282 | exact of_decide_eq_true (by first | (with_reducible assumption) | assumption) | (have e_ := (Kd.R_reads' HO279.out).1; omega)); obtain ⟨ve282_1, ve282_3, rfl, ge282_1, ge282_3⟩ := k36_openM hMe282; have hv282_1 := hcc282 1 _ rfl; rw [add_field _ _ 1 (by omega)] at hv282_1; replace hv282_1 := Option.some.inj (hv282_1.symm.trans hx282_1); rw [hv282_1] at ge282_1; have HL282_1 := Aside0.mk (show Kd.R k51 51 _ _ _ _ ((rd_T36 t277 0).f1) from ge282_1); clear hv282_1 ge282_1; have hv282_3 := hcc282 3 _ rfl; rw [add_field _ _ 3 (by omega)] at hv282_3; replace hv282_3 := Option.some.inj (hv282_3.symm.trans hx282_3); rw [hv282_3] at ge282_3; have HL282_3 := Aside0.mk (show Kd.R k36 36 _ _ _ _ ((rd_T36 t277 0).f3) from ge282_3); clear hv282_3 ge282_3; clear hcc282 hce282; have qi282 : (0 < t277.length) = True := eq_true (by omega); (try rw [show ((0 : Int)).toNat = 0 from rfl] at hx282_0); (try rw [show 0 * 4 = 0 from rfl] at hx282_0); (try rw [Addr.add_zero'] at hx282_0); (try rw [show ((0 : Int)).toNat = 0 from rfl] at hx282_1); (try rw [show 0 * 4 = 0 from rfl] at hx282_1); (try rw [Addr.add_zero'] at hx282_1); (try rw [show ((0 : Int)).toNat = 0 from rfl] at hx282_2); (try rw [show 0 * 4 = 0 from rfl] at hx282_2); (try rw [Addr.add_zero'] at hx282_2); (try rw [show ((0 : Int)).toNat = 0 from rfl] at hx282_3); (try rw [show 0 * 4 = 0 from rfl] at hx282_3); (try rw [Addr.add_zero'] at hx282_3); have HR282_1 := Aside0.mk hi282_1; have HC282_1 := Aside0.mk hl282_1; clear hi282_1 hl282_1; have HR282_3 := Aside0.mk hi282_3; have HC282_3 := Aside0.mk hl282_3; clear hi282_3 hl282_3; replace p282 := eq_true p282; replace q282 := eq_true q282; have ea_ := Option.some.inj (hx281_1.symm.trans hx282_1); injection ea_ with ea_ en_ ec_; subst ea_; subst ec_; clear en_; have ea_ := Option.some.inj (hx281_3.symm.trans hx282_3); injection ea_ with ea_ en_ ec_; subst ea_; subst ec_; clear en_; obtain ⟨Ao50, co50, eo50⟩ := Kd.R_slice HO276.out; subst eo50) | (go_at_call 12; (with_reducible refine (muslinref14_Same.calls k1 _ _ ((rd_T36 t277 0).f3) _ _ t274 true _ ?side1 ?side2 ?side3 ?side4 A43.out).mono ?_); (case side1 => repeat (first | exact (by repeat (first | (with_reducible exact HR282_3.out) | (with_reducible refine Kd.C_alloc ?_ _) | (with_reducible refine Kd.C_drewN ?_ _) | (with_reducible refine Kd.C_drew ?_) | exact HR282_3.out)) | (with_reducible refine Kd.C_alloc ?_ _) | (with_reducible refine Kd.C_drewN ?_ _) | (with_reducible refine Kd.C_drew ?_))); (case side2 => exact HC282_3.out); (case side3 => repeat (first | exact (Kd.R_reads' HO276.out).2.2 | (with_reducible refine Kd.C_alloc ?_ _) | (with_reducible refine Kd.C_drewN ?_ _) | (with_reducible refine Kd.C_drew ?_))); (case side4 => exact (Kd.R_reads' HO276.out).2.1); rintro e w51 ⟨rfl, hb⟩; have n0_ := Aside0.mk (Kd.R_below (by (with_reducible repeat (first | apply Kd.R_alloc | apply Kd.R_drewN | apply Kd.R_drew)); exact HO_3.out) hb); have n1_ := Aside0.mk (Kd.R_below (by (with_reducible repeat (first | apply Kd.R_alloc | apply Kd.R_drewN | apply Kd.R_drew)); exact HO276.out) hb); have n2_ := Aside0.mk (Kd.R_below (by (with_reducible repeat (first | apply Kd.R_alloc | apply Kd.R_drewN | apply Kd.R_drew)); exact HO279.out) hb); have n3_ := Aside0.mk (Kd.R_below (by (with_reducible repeat (first | apply Kd.R_alloc | apply Kd.R_drewN | apply Kd.R_drew)); exact HL281_1.out) hb); have n4_ := Aside0.mk (Kd.R_below (by (with_reducible repeat (first | apply Kd.R_alloc | apply Kd.R_drewN | apply Kd.R_drew)); exact HL281_3.out) hb); have n5_ := Aside0.mk (Kd.R_below (by (with_reducible repeat (first | apply Kd.R_alloc | apply Kd.R_drewN | apply Kd.R_drew)); exact HL282_1.out) hb); have n6_ := Aside0.mk (Kd.R_below (by (with_reducible repeat (first | apply Kd.R_alloc | apply Kd.R_drewN | apply Kd.R_drew)); exact HL282_3.out) hb); have n7_ := Aside0.mk (Kd.C_below (by repeat (first | (with_reducible exact HR281_1.out) | (with_reducible refine Kd.C_alloc ?_ _) | (with_reducible refine Kd.C_drewN ?_ _) | (with_reducible refine Kd.C_drew ?_) | exact HR281_1.out)) hb); have n8_ := Aside0.mk (Kd.C_below (by repeat (first | (with_reducible exact HR281_3.out) | (with_reducible refine Kd.C_alloc ?_ _) | (with_reducible refine Kd.C_drewN ?_ _) | (with_reducible refine Kd.C_drew ?_) | exact HR281_3.out)) hb); have n9_ := Aside0.mk (Kd.C_below (by repeat (first | (with_reducible exact HR282_1.out) | (with_reducible refine Kd.C_alloc ?_ _) | (with_reducible refine Kd.C_drewN ?_ _) | (with_reducible refine Kd.C_drew ?_) | exact HR282_1.out)) hb); have n10_ := Aside0.mk (Kd.C_below (by repeat (first | (with_reducible exact HR282_3.out) | (with_reducible refine Kd.C_alloc ?_ _) | (with_reducible refine Kd.C_drewN ?_ _) | (with_reducible refine Kd.C_drew ?_) | exact HR282_3.out)) hb); have n11_ := Aside0.mk (below_step (by repeat (first | (with_reducible first | exact HB.out | apply below_alloc | apply pw_below_drewN | apply below_drew1) | exact HB.out)) hb); clear HO_3; clear HO276; clear HO279; clear HL281_1; clear HL281_3; clear HL282_1; clear HL282_3; clear HR281_1; clear HR281_3; clear HR282_1; clear HR282_3; clear HB; have HO_3 := n0_; have HO276 := n1_; have HO279 := n2_; have HL281_1 := n3_; have HL281_3 := n4_; have HL282_1 := n5_; have HL282_3 := n6_; have HR281_1 := n7_; have HR281_3 := n8_; have HR282_1 := n9_; have HR282_3 := n10_; have HB := n11_; clear n0_ n1_ n2_ n3_ n4_ n5_ n6_ n7_ n8_ n9_ n10_ n11_; (try clear hb); (try clear hb2); (try clear hk); (try clear hi)) | (go_at_call 9; (with_reducible refine (muslinlaw20_live.calls k1  t284 _ A45.out).mono ?_); rintro e w52 ⟨rfl, hb⟩; have n0_ := Aside0.mk (Kd.R_below (by (with_reducible repeat (first | apply Kd.R_alloc | apply Kd.R_drewN | apply Kd.R_drew)); exact HO_3.out) hb); have n1_ := Aside0.mk (Kd.R_below (by (with_reducible repeat (first | apply Kd.R_alloc | apply Kd.R_drewN | apply Kd.R_drew)); exact HO276.out) hb); have n2_ := Aside0.mk (Kd.R_below (by (with_reducible repeat (first | apply Kd.R_alloc | apply Kd.R_drewN | apply Kd.R_drew)); exact HO279.out) hb); have n3_ := Aside0.mk (Kd.R_below (by (with_reducible repeat (first | apply Kd.R_alloc | apply Kd.R_drewN | apply Kd.R_drew)); exact HL281_1.out) hb); have n4_ := Aside0.mk (Kd.R_below (by (with_reducible repeat (first | apply Kd.R_alloc | apply Kd.R_drewN | apply Kd.R_drew)); exact HL281_3.out) hb); have n5_ := Aside0.mk (Kd.R_below (by (with_reducible repeat (first | apply Kd.R_alloc | apply Kd.R_drewN | apply Kd.R_drew)); exact HL282_1.out) hb); have n6_ := Aside0.mk (Kd.R_below (by (with_reducible repeat (first | apply Kd.R_alloc | apply Kd.R_drewN | apply Kd.R_drew)); exact HL282_3.out) hb); have n7_ := Aside0.mk (Kd.C_below (by repeat (first | (with_reducible exact HR281_1.out) | (with_reducible refine Kd.C_alloc ?_ _) | (with_reducible refine Kd.C_drewN ?_ _) | (with_reducible refine Kd.C_drew ?_) | exact HR281_1.out)) hb); have n8_ := Aside0.mk (Kd.C_below (by repeat (first | (with_reducible exact HR281_3.out) | (with_reducible refine Kd.C_alloc ?_ _) | (with_reducible refine Kd.C_drewN ?_ _) | (with_reducible refine Kd.C_drew ?_) | exact HR281_3.out)) hb); have n9_ := Aside0.mk (Kd.C_below (by repeat (first | (with_reducible exact HR282_1.out) | (with_reducible refine Kd.C_alloc ?_ _) | (with_reducible refine Kd.C_drewN ?_ _) | (with_reducible refine Kd.C_drew ?_) | exact HR282_1.out)) hb); have n10_ := Aside0.mk (Kd.C_below (by repeat (first | (with_reducible exact HR282_3.out) | (with_reducible refine Kd.C_alloc ?_ _) | (with_reducible refine Kd.C_drewN ?_ _) | (with_reducible refine Kd.C_drew ?_) | exact HR282_3.out)) hb); have n11_ := Aside0.mk (below_step (by repeat (first | (with_reducible first | exact HB.out | apply below_alloc | apply pw_below_drewN | apply below_drew1) | exact HB.out)) hb); clear HO_3; clear HO276; clear HO279; clear HL281_1; clear HL281_3; clear HL282_1; clear HL282_3; clear HR281_1; clear HR281_3; clear HR282_1; clear HR282_3; clear HB; have HO_3 := n0_; have HO276 := n1_; have HO279 := n2_; have HL281_1 := n3_; have HL281_3 := n4_; have HL282_1 := n5_; have HL282_3 := n6_; have HR281_1 := n7_; have HR281_3 := n8_; have HR282_1 := n9_; have HR282_3 := n10_; have HB := n11_; clear n0_ n1_ n2_ n3_ n4_ n5_ n6_ n7_ n8_ n9_ n10_ n11_; (try clear hb); (try clear hb2); (try clear hk); (try clear hi)))
                    go_ret
                    exact ⟨by first | rfl | (simp [errW_none, errW_some] <;> rfl) | (simp [*, errW_none, errW_some] <;> rfl), by repeat (first | (with_reducible first | exact HB.out | apply below_alloc | apply pw_below_drewN | apply below_drew1) | exact HB.out)⟩
                  · replace c44 := Bool.eq_false_iff.mpr c44
                    subst c44
                    have H1 : (some false) = some r := by rw [if_neg (show ¬ (false = true) by decide)] at H; exact H
                    clear H
                    have H := H1
                    clear H1
                    obtain rfl := Option.some.inj H
                    obtain ⟨Ao53, co53, eo53⟩ := Kd.R_slice HO_3.out
                    subst eo53
                    go_wp2_with (first | ((with_reducible refine gate_callee (f := 13) rfl ?_); refine goesL_ (some 60) rfl rfl Try.func13 (by kernel_rfl) rfl #[.string a0] rfl (by (try simp only [List.map_toArray, List.map_cons, List.map_nil]); first | done | rfl | (simp only [List.length_drop, List.length_take]; rfl)) ?_; (with_reducible refine (plain_Tree.calls k1 a0 t274 _ A26.out).mono ?_); rintro e w54 ⟨v275, rfl, ho0, hb⟩; refine ⟨_, rfl, ?_⟩; have n0_ := Aside0.mk (Kd.R_below (by (with_reducible repeat (first | apply Kd.R_alloc | apply Kd.R_drewN | apply Kd.R_drew)); exact HO_3.out) hb); have n1_ := Aside0.mk (Kd.R_lower ho0 (below_size (by repeat (first | (with_reducible first | exact HB.out | apply below_alloc | apply pw_below_drewN | apply below_drew1) | exact HB.out)))); have n2_ := Aside0.mk (below_step (by repeat (first | (with_reducible first | exact HB.out | apply below_alloc | apply pw_below_drewN | apply below_drew1) | exact HB.out)) hb); clear HO_3; clear HB; have HO_3 := n0_; have HO276 := n1_; have HB := n2_; clear n0_ n1_ n2_; (try clear hb); (try clear hb2); (try clear hk); (try clear hi); (try clear ho0)) | ((with_reducible refine gate_callee (f := 13) rfl ?_); refine goesL_ (some 62) rfl rfl Try.func13 (by kernel_rfl) rfl #[.string x4_1] rfl (by (try simp only [List.map_toArray, List.map_cons, List.map_nil]); first | done | rfl | (simp only [List.length_drop, List.length_take]; rfl)) ?_; (with_reducible refine (plain_Tree.calls k1 x4_1 t277 _ A27.out).mono ?_); rintro e w55 ⟨v278, rfl, ho0, hb⟩; refine ⟨_, rfl, ?_⟩; have n0_ := Aside0.mk (Kd.R_below (by (with_reducible repeat (first | apply Kd.R_alloc | apply Kd.R_drewN | apply Kd.R_drew)); exact HO_3.out) hb); have n1_ := Aside0.mk (Kd.R_elder' (by (with_reducible repeat (first | apply Kd.R_alloc | apply Kd.R_drewN | apply Kd.R_drew)); exact HO276.out) (Kd.R_base ho0) hb); have n2_ := Aside0.mk (Kd.R_lower (Kd.R_new' ho0 (Kd.R_lt (by (with_reducible repeat (first | apply Kd.R_alloc | apply Kd.R_drewN | apply Kd.R_drew)); exact HO276.out))) (below_size (by repeat (first | (with_reducible first | exact HB.out | apply below_alloc | apply pw_below_drewN | apply below_drew1) | exact HB.out)))); have n3_ := Aside0.mk (below_step (by repeat (first | (with_reducible first | exact HB.out | apply below_alloc | apply pw_below_drewN | apply below_drew1) | exact HB.out)) hb); clear HO_3; clear HO276; clear HB; have HO_3 := n0_; have HO276 := n1_; have HO279 := n2_; have HB := n3_; clear n0_ n1_ n2_ n3_; (try clear hb); (try clear hb2); (try clear hk); (try clear hi); (try clear ho0); obtain ⟨Ao56, co56, eo56⟩ := Kd.R_slice HO279.out; subst eo56; have p281 : 0 ≤ (0 : Int) := (by omega); have q281 : 0 < (t277.length : Int) := of_decide_eq_true (by first | (with_reducible assumption) | assumption); obtain ⟨ad281, A281_1, c281_1, A281_3, c281_3, e281, hx281_0, hx281_1, hx281_2, hx281_3, hl281_1, hi281_1, hl281_3, hi281_3⟩ := at_T36 (Kd.R_reads' HO279.out).2.2 0 p281 q281; cases e281; obtain ⟨ce281, hce281, hMe281, hcc281⟩ := Kd.R_get HO279.out z36 0 p281 (by first | exact q281 | exact of_decide_eq_true (by first | (with_reducible assumption) | assumption) | (have e_ := (Kd.R_reads' HO279.out).1; omega)); obtain ⟨ve281_1, ve281_3, rfl, ge281_1, ge281_3⟩ := k36_openM hMe281; have hv281_1 := hcc281 1 _ rfl; rw [add_field _ _ 1 (by omega)] at hv281_1; replace hv281_1 := Option.some.inj (hv281_1.symm.trans hx281_1); rw [hv281_1] at ge281_1; have HL281_1 := Aside0.mk (show Kd.R k51 51 _ _ _ _ ((rd_T36 t277 0).f1) from ge281_1); clear hv281_1 ge281_1; have hv281_3 := hcc281 3 _ rfl; rw [add_field _ _ 3 (by omega)] at hv281_3; replace hv281_3 := Option.some.inj (hv281_3.symm.trans hx281_3); rw [hv281_3] at ge281_3; have HL281_3 := Aside0.mk (show Kd.R k36 36 _ _ _ _ ((rd_T36 t277 0).f3) from ge281_3); clear hv281_3 ge281_3; clear hcc281 hce281; have qi281 : (0 < t277.length) = True := eq_true (by omega); (try rw [show ((0 : Int)).toNat = 0 from rfl] at hx281_0); (try rw [show 0 * 4 = 0 from rfl] at hx281_0); (try rw [Addr.add_zero'] at hx281_0); (try rw [show ((0 : Int)).toNat = 0 from rfl] at hx281_1); (try rw [show 0 * 4 = 0 from rfl] at hx281_1); (try rw [Addr.add_zero'] at hx281_1); (try rw [show ((0 : Int)).toNat = 0 from rfl] at hx281_2); (try rw [show 0 * 4 = 0 from rfl] at hx281_2); (try rw [Addr.add_zero'] at hx281_2); (try rw [show ((0 : Int)).toNat = 0 from rfl] at hx281_3); (try rw [show 0 * 4 = 0 from rfl] at hx281_3); (try rw [Addr.add_zero'] at hx281_3); have HR281_1 := Aside0.mk hi281_1; have HC281_1 := Aside0.mk hl281_1; clear hi281_1 hl281_1; have HR281_3 := Aside0.mk hi281_3; have HC281_3 := Aside0.mk hl281_3; clear hi281_3 hl281_3; replace p281 := eq_true p281; replace q281 := eq_true q281; have p282 : 0 ≤ (0 : Int) := (by omega); have q282 : 0 < (t277.length : Int) := of_decide_eq_true (by first | (with_reducible assumption) | assumption); obtain ⟨ad282, A282_1, c282_1, A282_3, c282_3, e282, hx282_0, hx282_1, hx282_2, hx282_3, hl282_1, hi282_1, hl282_3, hi282_3⟩ := at_T36 (Kd.R_reads' HO279.out).2.2 0 p282 q282; obtain rfl : ad281 = ad282 := (by injection e282); obtain ⟨ce282, hce282, hMe282, hcc282⟩ := Kd.R_get HO279.out z36 0 p282 (by first | exact q282 | exact of_decide_eq_true (by first | (with_reducible assumption) | assumption) | (have e_ := (Kd.R_reads' HO279.out).1; omega)); obtain ⟨ve282_1, ve282_3, rfl, ge282_1, ge282_3⟩ := k36_openM hMe282; have hv282_1 := hcc282 1 _ rfl; rw [add_field _ _ 1 (by omega)] at hv282_1; replace hv282_1 := Option.some.inj (hv282_1.symm.trans hx282_1); rw [hv282_1] at ge282_1; have HL282_1 := Aside0.mk (show Kd.R k51 51 _ _ _ _ ((rd_T36 t277 0).f1) from ge282_1); clear hv282_1 ge282_1; have hv282_3 := hcc282 3 _ rfl; rw [add_field _ _ 3 (by omega)] at hv282_3; replace hv282_3 := Option.some.inj (hv282_3.symm.trans hx282_3); rw [hv282_3] at ge282_3; have HL282_3 := Aside0.mk (show Kd.R k36 36 _ _ _ _ ((rd_T36 t277 0).f3) from ge282_3); clear hv282_3 ge282_3; clear hcc282 hce282; have qi282 : (0 < t277.length) = True := eq_true (by omega); (try rw [show ((0 : Int)).toNat = 0 from rfl] at hx282_0); (try rw [show 0 * 4 = 0 from rfl] at hx282_0); (try rw [Addr.add_zero'] at hx282_0); (try rw [show ((0 : Int)).toNat = 0 from rfl] at hx282_1); (try rw [show 0 * 4 = 0 from rfl] at hx282_1); (try rw [Addr.add_zero'] at hx282_1); (try rw [show ((0 : Int)).toNat = 0 from rfl] at hx282_2); (try rw [show 0 * 4 = 0 from rfl] at hx282_2); (try rw [Addr.add_zero'] at hx282_2); (try rw [show ((0 : Int)).toNat = 0 from rfl] at hx282_3); (try rw [show 0 * 4 = 0 from rfl] at hx282_3); (try rw [Addr.add_zero'] at hx282_3); have HR282_1 := Aside0.mk hi282_1; have HC282_1 := Aside0.mk hl282_1; clear hi282_1 hl282_1; have HR282_3 := Aside0.mk hi282_3; have HC282_3 := Aside0.mk hl282_3; clear hi282_3 hl282_3; replace p282 := eq_true p282; replace q282 := eq_true q282; have ea_ := Option.some.inj (hx281_1.symm.trans hx282_1); injection ea_ with ea_ en_ ec_; subst ea_; subst ec_; clear en_; have ea_ := Option.some.inj (hx281_3.symm.trans hx282_3); injection ea_ with ea_ en_ ec_; subst ea_; subst ec_; clear en_; obtain ⟨Ao57, co57, eo57⟩ := Kd.R_slice HO276.out; subst eo57) | (go_at_call 12; (with_reducible refine (muslinref14_Same.calls k1 _ _ ((rd_T36 t277 0).f3) _ _ t274 false _ ?side1 ?side2 ?side3 ?side4 A43.out).mono ?_); (case side1 => repeat (first | exact (by repeat (first | (with_reducible exact HR282_3.out) | (with_reducible refine Kd.C_alloc ?_ _) | (with_reducible refine Kd.C_drewN ?_ _) | (with_reducible refine Kd.C_drew ?_) | exact HR282_3.out)) | (with_reducible refine Kd.C_alloc ?_ _) | (with_reducible refine Kd.C_drewN ?_ _) | (with_reducible refine Kd.C_drew ?_))); (case side2 => exact HC282_3.out); (case side3 => repeat (first | exact (Kd.R_reads' HO276.out).2.2 | (with_reducible refine Kd.C_alloc ?_ _) | (with_reducible refine Kd.C_drewN ?_ _) | (with_reducible refine Kd.C_drew ?_))); (case side4 => exact (Kd.R_reads' HO276.out).2.1); rintro e w58 ⟨rfl, hb⟩; have n0_ := Aside0.mk (Kd.R_below (by (with_reducible repeat (first | apply Kd.R_alloc | apply Kd.R_drewN | apply Kd.R_drew)); exact HO_3.out) hb); have n1_ := Aside0.mk (Kd.R_below (by (with_reducible repeat (first | apply Kd.R_alloc | apply Kd.R_drewN | apply Kd.R_drew)); exact HO276.out) hb); have n2_ := Aside0.mk (Kd.R_below (by (with_reducible repeat (first | apply Kd.R_alloc | apply Kd.R_drewN | apply Kd.R_drew)); exact HO279.out) hb); have n3_ := Aside0.mk (Kd.R_below (by (with_reducible repeat (first | apply Kd.R_alloc | apply Kd.R_drewN | apply Kd.R_drew)); exact HL281_1.out) hb); have n4_ := Aside0.mk (Kd.R_below (by (with_reducible repeat (first | apply Kd.R_alloc | apply Kd.R_drewN | apply Kd.R_drew)); exact HL281_3.out) hb); have n5_ := Aside0.mk (Kd.R_below (by (with_reducible repeat (first | apply Kd.R_alloc | apply Kd.R_drewN | apply Kd.R_drew)); exact HL282_1.out) hb); have n6_ := Aside0.mk (Kd.R_below (by (with_reducible repeat (first | apply Kd.R_alloc | apply Kd.R_drewN | apply Kd.R_drew)); exact HL282_3.out) hb); have n7_ := Aside0.mk (Kd.C_below (by repeat (first | (with_reducible exact HR281_1.out) | (with_reducible refine Kd.C_alloc ?_ _) | (with_reducible refine Kd.C_drewN ?_ _) | (with_reducible refine Kd.C_drew ?_) | exact HR281_1.out)) hb); have n8_ := Aside0.mk (Kd.C_below (by repeat (first | (with_reducible exact HR281_3.out) | (with_reducible refine Kd.C_alloc ?_ _) | (with_reducible refine Kd.C_drewN ?_ _) | (with_reducible refine Kd.C_drew ?_) | exact HR281_3.out)) hb); have n9_ := Aside0.mk (Kd.C_below (by repeat (first | (with_reducible exact HR282_1.out) | (with_reducible refine Kd.C_alloc ?_ _) | (with_reducible refine Kd.C_drewN ?_ _) | (with_reducible refine Kd.C_drew ?_) | exact HR282_1.out)) hb); have n10_ := Aside0.mk (Kd.C_below (by repeat (first | (with_reducible exact HR282_3.out) | (with_reducible refine Kd.C_alloc ?_ _) | (with_reducible refine Kd.C_drewN ?_ _) | (with_reducible refine Kd.C_drew ?_) | exact HR282_3.out)) hb); have n11_ := Aside0.mk (below_step (by repeat (first | (with_reducible first | exact HB.out | apply below_alloc | apply pw_below_drewN | apply below_drew1) | exact HB.out)) hb); clear HO_3; clear HO276; clear HO279; clear HL281_1; clear HL281_3; clear HL282_1; clear HL282_3; clear HR281_1; clear HR281_3; clear HR282_1; clear HR282_3; clear HB; have HO_3 := n0_; have HO276 := n1_; have HO279 := n2_; have HL281_1 := n3_; have HL281_3 := n4_; have HL282_1 := n5_; have HL282_3 := n6_; have HR281_1 := n7_; have HR281_3 := n8_; have HR282_1 := n9_; have HR282_3 := n10_; have HB := n11_; clear n0_ n1_ n2_ n3_ n4_ n5_ n6_ n7_ n8_ n9_ n10_ n11_; (try clear hb); (try clear hb2); (try clear hk); (try clear hi)))
                    go_ret
                    exact ⟨by first | rfl | (simp [errW_none, errW_some] <;> rfl) | (simp [*, errW_none, errW_some] <;> rfl), by repeat (first | (with_reducible first | exact HB.out | apply below_alloc | apply pw_below_drewN | apply below_drew1) | exact HB.out)⟩
                · rw [if_neg c42] at H
                  have c42b0 : (((rd_T36 t277 0).f0).toList == ([98, 108, 111, 99, 107, 113, 117, 111, 116, 101] : List UInt8)) = false := beq_eq_false_iff_ne.mpr c42
                  have c42b1 : (((rd_T36 t277 0).f0).toList != ([98, 108, 111, 99, 107, 113, 117, 111, 116, 101] : List UInt8)) = true := bne_iff_ne.mpr c42
                  obtain rfl := Option.some.inj H
                  obtain ⟨Ao59, co59, eo59⟩ := Kd.R_slice HO_3.out
                  subst eo59
                  go_wp2_with (first | ((with_reducible refine gate_callee (f := 13) rfl ?_); refine goesL_ (some 60) rfl rfl Try.func13 (by kernel_rfl) rfl #[.string a0] rfl (by (try simp only [List.map_toArray, List.map_cons, List.map_nil]); first | done | rfl | (simp only [List.length_drop, List.length_take]; rfl)) ?_; (with_reducible refine (plain_Tree.calls k1 a0 t274 _ A26.out).mono ?_); rintro e w60 ⟨v275, rfl, ho0, hb⟩; refine ⟨_, rfl, ?_⟩; have n0_ := Aside0.mk (Kd.R_below (by (with_reducible repeat (first | apply Kd.R_alloc | apply Kd.R_drewN | apply Kd.R_drew)); exact HO_3.out) hb); have n1_ := Aside0.mk (Kd.R_lower ho0 (below_size (by repeat (first | (with_reducible first | exact HB.out | apply below_alloc | apply pw_below_drewN | apply below_drew1) | exact HB.out)))); have n2_ := Aside0.mk (below_step (by repeat (first | (with_reducible first | exact HB.out | apply below_alloc | apply pw_below_drewN | apply below_drew1) | exact HB.out)) hb); clear HO_3; clear HB; have HO_3 := n0_; have HO276 := n1_; have HB := n2_; clear n0_ n1_ n2_; (try clear hb); (try clear hb2); (try clear hk); (try clear hi); (try clear ho0)) | ((with_reducible refine gate_callee (f := 13) rfl ?_); refine goesL_ (some 62) rfl rfl Try.func13 (by kernel_rfl) rfl #[.string x4_1] rfl (by (try simp only [List.map_toArray, List.map_cons, List.map_nil]); first | done | rfl | (simp only [List.length_drop, List.length_take]; rfl)) ?_; (with_reducible refine (plain_Tree.calls k1 x4_1 t277 _ A27.out).mono ?_); rintro e w61 ⟨v278, rfl, ho0, hb⟩; refine ⟨_, rfl, ?_⟩; have n0_ := Aside0.mk (Kd.R_below (by (with_reducible repeat (first | apply Kd.R_alloc | apply Kd.R_drewN | apply Kd.R_drew)); exact HO_3.out) hb); have n1_ := Aside0.mk (Kd.R_elder' (by (with_reducible repeat (first | apply Kd.R_alloc | apply Kd.R_drewN | apply Kd.R_drew)); exact HO276.out) (Kd.R_base ho0) hb); have n2_ := Aside0.mk (Kd.R_lower (Kd.R_new' ho0 (Kd.R_lt (by (with_reducible repeat (first | apply Kd.R_alloc | apply Kd.R_drewN | apply Kd.R_drew)); exact HO276.out))) (below_size (by repeat (first | (with_reducible first | exact HB.out | apply below_alloc | apply pw_below_drewN | apply below_drew1) | exact HB.out)))); have n3_ := Aside0.mk (below_step (by repeat (first | (with_reducible first | exact HB.out | apply below_alloc | apply pw_below_drewN | apply below_drew1) | exact HB.out)) hb); clear HO_3; clear HO276; clear HB; have HO_3 := n0_; have HO276 := n1_; have HO279 := n2_; have HB := n3_; clear n0_ n1_ n2_ n3_; (try clear hb); (try clear hb2); (try clear hk); (try clear hi); (try clear ho0); obtain ⟨Ao62, co62, eo62⟩ := Kd.R_slice HO279.out; subst eo62; have p281 : 0 ≤ (0 : Int) := (by omega); have q281 : 0 < (t277.length : Int) := of_decide_eq_true (by first | (with_reducible assumption) | assumption); obtain ⟨ad281, A281_1, c281_1, A281_3, c281_3, e281, hx281_0, hx281_1, hx281_2, hx281_3, hl281_1, hi281_1, hl281_3, hi281_3⟩ := at_T36 (Kd.R_reads' HO279.out).2.2 0 p281 q281; cases e281; obtain ⟨ce281, hce281, hMe281, hcc281⟩ := Kd.R_get HO279.out z36 0 p281 (by first | exact q281 | exact of_decide_eq_true (by first | (with_reducible assumption) | assumption) | (have e_ := (Kd.R_reads' HO279.out).1; omega)); obtain ⟨ve281_1, ve281_3, rfl, ge281_1, ge281_3⟩ := k36_openM hMe281; have hv281_1 := hcc281 1 _ rfl; rw [add_field _ _ 1 (by omega)] at hv281_1; replace hv281_1 := Option.some.inj (hv281_1.symm.trans hx281_1); rw [hv281_1] at ge281_1; have HL281_1 := Aside0.mk (show Kd.R k51 51 _ _ _ _ ((rd_T36 t277 0).f1) from ge281_1); clear hv281_1 ge281_1; have hv281_3 := hcc281 3 _ rfl; rw [add_field _ _ 3 (by omega)] at hv281_3; replace hv281_3 := Option.some.inj (hv281_3.symm.trans hx281_3); rw [hv281_3] at ge281_3; have HL281_3 := Aside0.mk (show Kd.R k36 36 _ _ _ _ ((rd_T36 t277 0).f3) from ge281_3); clear hv281_3 ge281_3; clear hcc281 hce281; have qi281 : (0 < t277.length) = True := eq_true (by omega); (try rw [show ((0 : Int)).toNat = 0 from rfl] at hx281_0); (try rw [show 0 * 4 = 0 from rfl] at hx281_0); (try rw [Addr.add_zero'] at hx281_0); (try rw [show ((0 : Int)).toNat = 0 from rfl] at hx281_1); (try rw [show 0 * 4 = 0 from rfl] at hx281_1); (try rw [Addr.add_zero'] at hx281_1); (try rw [show ((0 : Int)).toNat = 0 from rfl] at hx281_2); (try rw [show 0 * 4 = 0 from rfl] at hx281_2); (try rw [Addr.add_zero'] at hx281_2); (try rw [show ((0 : Int)).toNat = 0 from rfl] at hx281_3); (try rw [show 0 * 4 = 0 from rfl] at hx281_3); (try rw [Addr.add_zero'] at hx281_3); have HR281_1 := Aside0.mk hi281_1; have HC281_1 := Aside0.mk hl281_1; clear hi281_1 hl281_1; have HR281_3 := Aside0.mk hi281_3; have HC281_3 := Aside0.mk hl281_3; clear hi281_3 hl281_3; replace p281 := eq_true p281; replace q281 := eq_true q281))
                  go_ret
                  exact ⟨by first | rfl | (simp [errW_none, errW_some] <;> rfl) | (simp [*, errW_none, errW_some] <;> rfl), by repeat (first | (with_reducible first | exact HB.out | apply below_alloc | apply pw_below_drewN | apply below_drew1) | exact HB.out)⟩
              · rw [if_neg c41] at H
                exact absurd H (by simp)
            · rw [if_neg c40] at H
              have c40b0 : ((t277.length : Int) == 1) = false := beq_eq_false_iff_ne.mpr c40
              have c40b1 : ((t277.length : Int) != 1) = true := bne_iff_ne.mpr c40
              obtain rfl := Option.some.inj H
              obtain ⟨Ao63, co63, eo63⟩ := Kd.R_slice HO_3.out
              subst eo63
              go_wp2_with (first | ((with_reducible refine gate_callee (f := 13) rfl ?_); refine goesL_ (some 60) rfl rfl Try.func13 (by kernel_rfl) rfl #[.string a0] rfl (by (try simp only [List.map_toArray, List.map_cons, List.map_nil]); first | done | rfl | (simp only [List.length_drop, List.length_take]; rfl)) ?_; (with_reducible refine (plain_Tree.calls k1 a0 t274 _ A26.out).mono ?_); rintro e w64 ⟨v275, rfl, ho0, hb⟩; refine ⟨_, rfl, ?_⟩; have n0_ := Aside0.mk (Kd.R_below (by (with_reducible repeat (first | apply Kd.R_alloc | apply Kd.R_drewN | apply Kd.R_drew)); exact HO_3.out) hb); have n1_ := Aside0.mk (Kd.R_lower ho0 (below_size (by repeat (first | (with_reducible first | exact HB.out | apply below_alloc | apply pw_below_drewN | apply below_drew1) | exact HB.out)))); have n2_ := Aside0.mk (below_step (by repeat (first | (with_reducible first | exact HB.out | apply below_alloc | apply pw_below_drewN | apply below_drew1) | exact HB.out)) hb); clear HO_3; clear HB; have HO_3 := n0_; have HO276 := n1_; have HB := n2_; clear n0_ n1_ n2_; (try clear hb); (try clear hb2); (try clear hk); (try clear hi); (try clear ho0)) | ((with_reducible refine gate_callee (f := 13) rfl ?_); refine goesL_ (some 62) rfl rfl Try.func13 (by kernel_rfl) rfl #[.string x4_1] rfl (by (try simp only [List.map_toArray, List.map_cons, List.map_nil]); first | done | rfl | (simp only [List.length_drop, List.length_take]; rfl)) ?_; (with_reducible refine (plain_Tree.calls k1 x4_1 t277 _ A27.out).mono ?_); rintro e w65 ⟨v278, rfl, ho0, hb⟩; refine ⟨_, rfl, ?_⟩; have n0_ := Aside0.mk (Kd.R_below (by (with_reducible repeat (first | apply Kd.R_alloc | apply Kd.R_drewN | apply Kd.R_drew)); exact HO_3.out) hb); have n1_ := Aside0.mk (Kd.R_elder' (by (with_reducible repeat (first | apply Kd.R_alloc | apply Kd.R_drewN | apply Kd.R_drew)); exact HO276.out) (Kd.R_base ho0) hb); have n2_ := Aside0.mk (Kd.R_lower (Kd.R_new' ho0 (Kd.R_lt (by (with_reducible repeat (first | apply Kd.R_alloc | apply Kd.R_drewN | apply Kd.R_drew)); exact HO276.out))) (below_size (by repeat (first | (with_reducible first | exact HB.out | apply below_alloc | apply pw_below_drewN | apply below_drew1) | exact HB.out)))); have n3_ := Aside0.mk (below_step (by repeat (first | (with_reducible first | exact HB.out | apply below_alloc | apply pw_below_drewN | apply below_drew1) | exact HB.out)) hb); clear HO_3; clear HO276; clear HB; have HO_3 := n0_; have HO276 := n1_; have HO279 := n2_; have HB := n3_; clear n0_ n1_ n2_ n3_; (try clear hb); (try clear hb2); (try clear hk); (try clear hi); (try clear ho0); obtain ⟨Ao66, co66, eo66⟩ := Kd.R_slice HO279.out; subst eo66))
              go_ret
              exact ⟨by first | rfl | (simp [errW_none, errW_some] <;> rfl) | (simp [*, errW_none, errW_some] <;> rfl), by repeat (first | (with_reducible first | exact HB.out | apply below_alloc | apply pw_below_drewN | apply below_drew1) | exact HB.out)⟩

/-- THE ONE PURE STATEMENT of muslinlaw20_PlainQuoted: yours. -/
def muslinlaw20_PlainQuoted.Pure : Prop := ∀ (a0 : ByteArray), a0.size ≤ 140737488351232 → ∃ k, muslinlaw20_PlainQuoted.f k a0 = some true
theorem muslinlaw20_PlainQuoted.walk (P : muslinlaw20_PlainQuoted.Pure) (a0 : ByteArray) (w : World) (w0 : a0.size ≤ 140737488351232) :
    Calls Try.prog 7 #[.string a0] w fun e w' => e = .returned (.bool true) ∧ Below w.heap.size w w' := by
  obtain ⟨k, h⟩ := P a0 w0
  refine (muslinlaw20_PlainQuoted.calls k a0 true w h).mono ?_
  rintro e w' ⟨rfl, hd⟩
  exact ⟨rfl, hd⟩

end Go.Proofs.Ythnbhcmekkadeaa.Pr
