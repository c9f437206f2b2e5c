/- Written by a program of this session (printx.py), with functions proved by hand counted as printed; Lean checks it. -/
import Derived.Test.YtomfdejamngkjaaDoorPrx0
import Derived.Test.YtomfdejamngkjaaDoorPrx3
import Derived.Test.YtomfdejamngkjaaDoorPrx4
namespace Go.Proofs.YtomfdejamngkjaaDoor.Pr
open Go.RowKit Go.Proofs.YtomfdejamngkjaaDoorW.PrintWords Go.Proofs.YtomfdejamngkjaaDoorW.PrintLast Go.Proofs.YtomfdejamngkjaaDoorW.PrintMore
attribute [local go_sem] max2_int min2_int max_two min_two max_three min_three max_four min_four   -- for this text's walks alone
set_option linter.unusedVariables false
set_option linter.unusedSimpArgs false

/-! ### muslinref06_Head: function 16 -/
mutual
def muslinref06_Head.j3 : Nat → List (S29) → ByteArray → Option ((List (S29)) × ByteArray)
  | 0, _, _ => none
  | k + 1, x4, x5 => muslinref06_Head.l1 k x4 x5 0
def muslinref06_Head.l1 : Nat → List (S29) → ByteArray → Int → Option ((List (S29)) × ByteArray)
  | 0, _, _, _ => none
  | k + 1, x4, x5, x13 => if x13 < (x4.length : Int) then (if 0 ≤ x13 then ((muslinref06_Trim.f k ((rd_T29 x4 x13).f1)).bind fun t185 => (muslinref06_Head.l1 k (x4.set (x13 : Int).toNat (⟨(rd_T29 x4 x13).f0, t185⟩ : S29)) x5 (wrap64 (x13 + 1)))) else (none)) else (some (x4, x5))
def muslinref06_Head.l0 : Nat → ByteArray → List (S29) → ByteArray → Bool → Int → Option ((List (S29)) × ByteArray)
  | 0, _, _, _, _, _ => none
  | k + 1, x0, x4, x5, x6, x7 => if x7 < (x0.size : Int) then ((muslinref06_Next.f k x0 x7).bind fun bt171 => (if bt171.2.1.toList = ([] : List UInt8) then (muslinref06_Head.j1 k x0 x4 x5 x6 bt171.1 bt171.2.1 bt171.2.2) else (muslinref06_Head.j1 k x0 x4 x5 x6 bt171.1 bt171.2.1 false))) else (muslinref06_Head.j3 k x4 x5)
def muslinref06_Head.j1 : Nat → ByteArray → List (S29) → ByteArray → Bool → Int → ByteArray → Bool → Option ((List (S29)) × ByteArray)
  | 0, _, _, _, _, _, _, _ => none
  | k + 1, x0, x4, x5, x6, x8, x9, x29 => if x29 = true then (if 0 ≤ x8 then (if x8 ≤ (x0.size : Int) then (muslinref06_Head.j3 k x4 (x0.extract (x8 : Int).toNat x0.size)) else (none)) else (none)) else (if x9.toList = ([] : List UInt8) then (muslinref06_Head.j2 k x0 x4 x5 x6 x8 x9 false) else (if 0 < (x9.size : Int) then ((muslinref06_white.f (bt x9 0)).bind fun t174 => (muslinref06_Head.j2 k x0 x4 x5 x6 x8 x9 t174)) else (none)))
def muslinref06_Head.j2 : Nat → ByteArray → List (S29) → ByteArray → Bool → Int → ByteArray → Bool → Option ((List (S29)) × ByteArray)
  | 0, _, _, _, _, _, _, _ => none
  | k + 1, x0, x4, x5, x6, x8, x9, x39 => if x39 = true then (if x6 = true then (if 0 ≤ (wrap64 ((x4.length : Int) - 1)) then (if (wrap64 ((x4.length : Int) - 1)) < (x4.length : Int) then (if ((rd_T29 x4 (wrap64 ((x4.length : Int) - 1))).f1).size + x9.size ≤ 9223372036854775807 then (muslinref06_Head.l0 k x0 (x4.set ((wrap64 ((x4.length : Int) - 1)) : Int).toNat (⟨(rd_T29 x4 (wrap64 ((x4.length : Int) - 1))).f0, ((rd_T29 x4 (wrap64 ((x4.length : Int) - 1))).f1) ++ x9⟩ : S29)) x5 x6 x8) else (none)) else (none)) else (none)) else (muslinref06_Head.l0 k x0 x4 x5 x6 x8)) else ((muslinref06_field.f k x9).bind fun bt177 => (if bt177.2.2 = true then (if (x4.length : Int) < 500 then (if x4.length < 4398046511104 then (muslinref06_Head.l0 k x0 (x4 ++ [(⟨bt177.1, bt177.2.1⟩ : S29)]) x5 (decide ((x4.length : Int) < 500)) x8) else (none)) else (muslinref06_Head.l0 k x0 x4 x5 (decide ((x4.length : Int) < 500)) x8)) else (muslinref06_Head.l0 k x0 x4 x5 false x8)))
end
def muslinref06_Head.f (k : Nat) (a0 : ByteArray) : Option ((List (S29)) × ByteArray) := muslinref06_Head.l0 k a0 ([] : List (S29)) (⟨#[]⟩ : ByteArray) false 0
theorem muslinref06_Head.mono_l : ∀ k, (∀ y0 y1, LeO (muslinref06_Head.j3 k y0 y1) (muslinref06_Head.j3 (k + 1) y0 y1)) ∧ (∀ y0 y1 y2, LeO (muslinref06_Head.l1 k y0 y1 y2) (muslinref06_Head.l1 (k + 1) y0 y1 y2)) ∧ (∀ y0 y1 y2 y3 y4, LeO (muslinref06_Head.l0 k y0 y1 y2 y3 y4) (muslinref06_Head.l0 (k + 1) y0 y1 y2 y3 y4)) ∧ (∀ y0 y1 y2 y3 y4 y5 y6, LeO (muslinref06_Head.j1 k y0 y1 y2 y3 y4 y5 y6) (muslinref06_Head.j1 (k + 1) y0 y1 y2 y3 y4 y5 y6)) ∧ (∀ y0 y1 y2 y3 y4 y5 y6, LeO (muslinref06_Head.j2 k y0 y1 y2 y3 y4 y5 y6) (muslinref06_Head.j2 (k + 1) y0 y1 y2 y3 y4 y5 y6))
  | 0 => ⟨fun _ _ r h => by simp [muslinref06_Head.j3] at h, fun _ _ _ r h => by simp [muslinref06_Head.l1] at h, fun _ _ _ _ _ r h => by simp [muslinref06_Head.l0] at h, fun _ _ _ _ _ _ _ r h => by simp [muslinref06_Head.j1] at h, fun _ _ _ _ _ _ _ r h => by simp [muslinref06_Head.j2] at h⟩
  | k + 1 => by
    obtain ⟨ih0, ih1, ih2, ih3, ih4⟩ := muslinref06_Head.mono_l k
    refine ⟨?_, ?_, ?_, ?_, ?_⟩
    · intro y0 y1
      unfold muslinref06_Head.j3
      repeat' first
      | (with_reducible exact ih0 _ _)
      | (with_reducible exact ih1 _ _ _)
      | (with_reducible exact ih2 _ _ _ _ _)
      | (with_reducible exact ih3 _ _ _ _ _ _ _)
      | (with_reducible exact ih4 _ _ _ _ _ _ _)
      | (with_reducible exact muslinref06_Next.mono _ _ _)
      | (with_reducible exact muslinref06_Trim.mono _ _)
      | (with_reducible exact muslinref06_field.mono _ _)
      | (with_reducible exact LeO.refl _)
      | (with_reducible exact LeO.none _)
      | (with_reducible refine LeO.ite ?_ ?_)
      | (with_reducible refine LeO.bind ?_ (fun _ => ?_))
      | exact ih0 _ _
      | exact ih1 _ _ _
      | exact ih2 _ _ _ _ _
      | exact ih3 _ _ _ _ _ _ _
      | exact ih4 _ _ _ _ _ _ _
      | exact muslinref06_Next.mono _ _ _
      | exact muslinref06_Trim.mono _ _
      | exact muslinref06_field.mono _ _
      | exact LeO.none _
      | refine LeO.ite ?_ ?_
      | refine LeO.bind ?_ (fun _ => ?_)
    · intro y0 y1 y2
      unfold muslinref06_Head.l1
      repeat' first
      | (with_reducible exact ih0 _ _)
      | (with_reducible exact ih1 _ _ _)
      | (with_reducible exact ih2 _ _ _ _ _)
      | (with_reducible exact ih3 _ _ _ _ _ _ _)
      | (with_reducible exact ih4 _ _ _ _ _ _ _)
      | (with_reducible exact muslinref06_Next.mono _ _ _)
      | (with_reducible exact muslinref06_Trim.mono _ _)
      | (with_reducible exact muslinref06_field.mono _ _)
      | (with_reducible exact LeO.refl _)
      | (with_reducible exact LeO.none _)
      | (with_reducible refine LeO.ite ?_ ?_)
      | (with_reducible refine LeO.bind ?_ (fun _ => ?_))
      | exact ih0 _ _
      | exact ih1 _ _ _
      | exact ih2 _ _ _ _ _
      | exact ih3 _ _ _ _ _ _ _
      | exact ih4 _ _ _ _ _ _ _
      | exact muslinref06_Next.mono _ _ _
      | exact muslinref06_Trim.mono _ _
      | exact muslinref06_field.mono _ _
      | exact LeO.none _
      | refine LeO.ite ?_ ?_
      | refine LeO.bind ?_ (fun _ => ?_)
    · intro y0 y1 y2 y3 y4
      unfold muslinref06_Head.l0
      repeat' first
      | (with_reducible exact ih0 _ _)
      | (with_reducible exact ih1 _ _ _)
      | (with_reducible exact ih2 _ _ _ _ _)
      | (with_reducible exact ih3 _ _ _ _ _ _ _)
      | (with_reducible exact ih4 _ _ _ _ _ _ _)
      | (with_reducible exact muslinref06_Next.mono _ _ _)
      | (with_reducible exact muslinref06_Trim.mono _ _)
      | (with_reducible exact muslinref06_field.mono _ _)
      | (with_reducible exact LeO.refl _)
      | (with_reducible exact LeO.none _)
      | (with_reducible refine LeO.ite ?_ ?_)
      | (with_reducible refine LeO.bind ?_ (fun _ => ?_))
      | exact ih0 _ _
      | exact ih1 _ _ _
      | exact ih2 _ _ _ _ _
      | exact ih3 _ _ _ _ _ _ _
      | exact ih4 _ _ _ _ _ _ _
      | exact muslinref06_Next.mono _ _ _
      | exact muslinref06_Trim.mono _ _
      | exact muslinref06_field.mono _ _
      | exact LeO.none _
      | refine LeO.ite ?_ ?_
      | refine LeO.bind ?_ (fun _ => ?_)
    · intro y0 y1 y2 y3 y4 y5 y6
      unfold muslinref06_Head.j1
      repeat' first
      | (with_reducible exact ih0 _ _)
      | (with_reducible exact ih1 _ _ _)
      | (with_reducible exact ih2 _ _ _ _ _)
      | (with_reducible exact ih3 _ _ _ _ _ _ _)
      | (with_reducible exact ih4 _ _ _ _ _ _ _)
      | (with_reducible exact muslinref06_Next.mono _ _ _)
      | (with_reducible exact muslinref06_Trim.mono _ _)
      | (with_reducible exact muslinref06_field.mono _ _)
      | (with_reducible exact LeO.refl _)
      | (with_reducible exact LeO.none _)
      | (with_reducible refine LeO.ite ?_ ?_)
      | (with_reducible refine LeO.bind ?_ (fun _ => ?_))
      | exact ih0 _ _
      | exact ih1 _ _ _
      | exact ih2 _ _ _ _ _
      | exact ih3 _ _ _ _ _ _ _
      | exact ih4 _ _ _ _ _ _ _
      | exact muslinref06_Next.mono _ _ _
      | exact muslinref06_Trim.mono _ _
      | exact muslinref06_field.mono _ _
      | exact LeO.none _
      | refine LeO.ite ?_ ?_
      | refine LeO.bind ?_ (fun _ => ?_)
    · intro y0 y1 y2 y3 y4 y5 y6
      unfold muslinref06_Head.j2
      repeat' first
      | (with_reducible exact ih0 _ _)
      | (with_reducible exact ih1 _ _ _)
      | (with_reducible exact ih2 _ _ _ _ _)
      | (with_reducible exact ih3 _ _ _ _ _ _ _)
      | (with_reducible exact ih4 _ _ _ _ _ _ _)
      | (with_reducible exact muslinref06_Next.mono _ _ _)
      | (with_reducible exact muslinref06_Trim.mono _ _)
      | (with_reducible exact muslinref06_field.mono _ _)
      | (with_reducible exact LeO.refl _)
      | (with_reducible exact LeO.none _)
      | (with_reducible refine LeO.ite ?_ ?_)
      | (with_reducible refine LeO.bind ?_ (fun _ => ?_))
      | exact ih0 _ _
      | exact ih1 _ _ _
      | exact ih2 _ _ _ _ _
      | exact ih3 _ _ _ _ _ _ _
      | exact ih4 _ _ _ _ _ _ _
      | exact muslinref06_Next.mono _ _ _
      | exact muslinref06_Trim.mono _ _
      | exact muslinref06_field.mono _ _
      | exact LeO.none _
      | refine LeO.ite ?_ ?_
      | refine LeO.bind ?_ (fun _ => ?_)
theorem muslinref06_Head.mono : ∀ a0 k, LeO (muslinref06_Head.f k a0) (muslinref06_Head.f (k + 1) a0) := by
  intro a0 k
  obtain ⟨ih0, ih1, ih2, ih3, ih4⟩ := muslinref06_Head.mono_l k
  unfold muslinref06_Head.f
  repeat' first
      | (with_reducible exact ih0 _ _)
      | (with_reducible exact ih1 _ _ _)
      | (with_reducible exact ih2 _ _ _ _ _)
      | (with_reducible exact ih3 _ _ _ _ _ _ _)
      | (with_reducible exact ih4 _ _ _ _ _ _ _)
      | (with_reducible exact muslinref06_Next.mono _ _ _)
      | (with_reducible exact muslinref06_Trim.mono _ _)
      | (with_reducible exact muslinref06_field.mono _ _)
      | (with_reducible exact LeO.refl _)
      | (with_reducible exact LeO.none _)
      | (with_reducible refine LeO.ite ?_ ?_)
      | (with_reducible refine LeO.bind ?_ (fun _ => ?_))
      | exact ih0 _ _
      | exact ih1 _ _ _
      | exact ih2 _ _ _ _ _
      | exact ih3 _ _ _ _ _ _ _
      | exact ih4 _ _ _ _ _ _ _
      | exact muslinref06_Next.mono _ _ _
      | exact muslinref06_Trim.mono _ _
      | exact muslinref06_field.mono _ _
      | exact LeO.none _
      | refine LeO.ite ?_ ?_
      | refine LeO.bind ?_ (fun _ => ?_)
set_option maxHeartbeats 8000000 in
set_option maxRecDepth 100000 in
theorem muslinref06_Head.calls (k : Nat) (a0 : ByteArray) (r1 : List (S29)) (r2 : ByteArray) (w : World) (h : muslinref06_Head.f k a0 = some (r1, r2)) :
    Calls Tryd.prog 16 #[.string a0] w fun e w' => ∃ v0_ : Value, e = .returned (.tuple #[v0_, .string r2]) ∧ Kd.R k29 29 w' w.heap.size (fun _ => True) v0_ r1 ∧ Below w.heap.size w w' := by
  have hu29 := Tryd.underlying29
  have HB := Aside0.mk (Below.refl w.heap.size w)
  have H : (muslinref06_Head.l0 k a0 ([] : List (S29)) (⟨#[]⟩ : ByteArray) false 0) = some (r1, r2) := h
  clear h
  have HC2 := Aside0.mk H
  clear H
  go_enter Tryd.func16, Tryd.ntmps16
  go_upto_block 0 with (fail)
  go_cut [4, 5] (fun v4 v5 wc => ∃ (kq : Nat) (x4_1 : List (S29)) (x5_1 : ByteArray), v5 = .string x5_1 ∧ Aside0 (muslinref06_Head.j3 kq x4_1 x5_1 = some (r1, r2)) ∧ Aside0 (kq ≤ k) ∧ Aside0 (Kd.R k29 29 wc w.heap.size (fun _ => True) v4 x4_1) ∧ Aside0 (Below w.heap.size w wc))
  case first =>
    have H := HC2.out
    clear HC2
    have H' := Aside0.mk H
    clear H
    go_wp2
    go_loopg [4, 5, 6, 7] k (fun kq v4 v5 v6 v7 w' => ∃ (x4_1 : List (S29)) (x5_1 : ByteArray) (x6_1 : Bool) (x7_1 : Int), v5 = .string x5_1 ∧ v6 = .bool x6_1 ∧ v7 = .int .i64 x7_1 ∧ Aside0 (muslinref06_Head.l0 kq a0 x4_1 x5_1 x6_1 x7_1 = some (r1, r2)) ∧ Aside0 (kq ≤ k) ∧ Aside0 (Kd.R k29 29 w' w.heap.size (fun _ => True) v4 x4_1) ∧ Aside0 (Below w.heap.size w w'))
    case atStart => exact ⟨(([] : List (S29))), ((⟨#[]⟩ : ByteArray)), (false), (0), (by first | rfl | (simp; done) | (simp [*]; done)), (by first | rfl | (simp; done) | (simp [*]; done)), (by first | rfl | (simp; done) | (simp [*]; done)), H', ⟨Nat.le_refl _⟩, ⟨by first | exact Kd.R_nil _ _ _ _ _ | exact Kd.N_nil _ _ _ _ _ | exact Kd.V_nil _ _ _ _ _ | exact Kd.Q_nil _ _ _ _ _ | exact Kd.S_nil _ _ _ _ _⟩, ⟨by repeat (first | (with_reducible first | exact HB.out | apply below_alloc | apply pw_below_drewN | apply below_drew1) | exact HB.out)⟩⟩
    case round =>
      clear H'
      try clear c1
      try clear p2
      obtain ⟨x4_1, x5_1, x6_1, x7_1, rfl, rfl, rfl, HA, HK1, HO_4, HB⟩ := hrel
      cases gk with
      | zero => exact absurd HA.out (by simp [muslinref06_Head.l0])
      | succ k1 =>
        have H := HA.out
        clear HA
        simp only [muslinref06_Head.l0] at H
        by_cases c3 : x7_1 < (a0.size : Int)
        · rw [if_pos c3] at H
          have c3b0 : decide (x7_1 < (a0.size : Int)) = true := decide_eq_true c3
          clear c3
          (first | rw [c3b0] | (simp only [i64_w, i32_w]; rw [c3b0]) | skip)
          replace H := Option.bind_eq_some_iff.mp H
          obtain ⟨⟨t171, t172, t173⟩, A40, H⟩ := H
          replace H : (if t172.toList = ([] : List UInt8) then (muslinref06_Head.j1 k1 a0 x4_1 x5_1 x6_1 t171 t172 t173) else (muslinref06_Head.j1 k1 a0 x4_1 x5_1 x6_1 t171 t172 false)) = some (r1, r2) := H
          have A4 := Aside0.mk A40
          clear A40
          have HC5 := Aside0.mk H
          clear H
          go_upto_region 7 with (first | ((with_reducible refine gate_callee (f := 33) rfl ?_); refine goesL_ (some 21) rfl rfl Tryd.func33 (by kernel_rfl) rfl #[.string a0, .int .i64 x7_1] rfl (by (try simp only [List.map_toArray, List.map_cons, List.map_nil]); first | done | rfl | (simp only [List.length_drop, List.length_take]; rfl)) ?_; (with_reducible refine (muslinref06_Next.calls k1 a0 x7_1 t171 t172 t173 _ A4.out).mono ?_); rintro e w' ⟨rfl, ⟨nd, rfl⟩⟩; refine ⟨_, rfl, ?_⟩))
          (try simp only [Act.put, List.setIfInBounds_toArray, List.set_cons_zero, List.set_cons_succ])
          go_cut [29] (fun v29 wc => ∃ (kq : Nat) (x29_4 : Bool), v29 = .bool x29_4 ∧ Aside0 (muslinref06_Head.j1 kq a0 x4_1 x5_1 x6_1 t171 t172 x29_4 = some (r1, r2)) ∧ Aside0 (kq ≤ k1) ∧ Aside0 (Kd.R k29 29 wc w.heap.size (fun _ => True) u4 x4_1) ∧ Aside0 (Below w.heap.size w wc))
          case first =>
            have H := HC5.out
            clear HC5
            by_cases c6 : t172.toList = ([] : List UInt8)
            · rw [if_pos c6] at H
              have c6b0 : (t172.toList == ([] : List UInt8)) = true := beq_iff_eq.mpr c6
              have c6b1 : (t172.toList != ([] : List UInt8)) = false := bne_eq_false_iff_eq.mpr c6
              clear c6
              (first | rw [c6b0] | (simp only [i64_w, i32_w]; rw [c6b0]) | skip)
              have H' := Aside0.mk H
              clear H
              go_wp2
              go_meet
              case rel => exact ⟨_, (t173), (by first | rfl | (simp; done) | (simp [*]; done)), H', ⟨by have := HK1.out; first | omega | exact Nat.le_refl _⟩, ⟨by (with_reducible repeat (first | apply Kd.R_alloc | apply Kd.R_drewN | apply Kd.R_drew)); exact HO_4.out⟩, ⟨by repeat (first | (with_reducible first | exact HB.out | apply below_alloc | apply pw_below_drewN | apply below_drew1) | exact HB.out)⟩⟩
            · rw [if_neg c6] at H
              have c6b0 : (t172.toList == ([] : List UInt8)) = false := beq_eq_false_iff_ne.mpr c6
              have c6b1 : (t172.toList != ([] : List UInt8)) = true := bne_iff_ne.mpr c6
              (first | rw [c6b0] | (simp only [i64_w, i32_w]; rw [c6b0]) | skip)
              have H' := Aside0.mk H
              clear H
              go_wp2
              go_meet
              case rel => exact ⟨_, (false), (by first | rfl | (simp; done) | (simp [*]; done)), H', ⟨by have := HK1.out; first | omega | exact Nat.le_refl _⟩, ⟨by (with_reducible repeat (first | apply Kd.R_alloc | apply Kd.R_drewN | apply Kd.R_drew)); exact HO_4.out⟩, ⟨by repeat (first | (with_reducible first | exact HB.out | apply below_alloc | apply pw_below_drewN | apply below_drew1) | exact HB.out)⟩⟩
          case rest =>
            clear HC5
            try clear c1
            try clear p2
            try clear c3
            try clear c3b0
            try clear c6
            try clear c6b0
            try clear c6b1
            try clear p2
            obtain ⟨kq, x29_4, rfl, HA, HJ4, HO_4, HB⟩ := hcut
            cases kq with
            | zero => exact absurd HA.out (by simp [muslinref06_Head.j1])
            | succ kj4 =>
              have H := HA.out
              clear HA
              simp only [muslinref06_Head.j1] at H
              by_cases c7 : x29_4 = true
              · subst c7
                have H1 : (if 0 ≤ t171 then (if t171 ≤ (a0.size : Int) then (muslinref06_Head.j3 kj4 x4_1 (a0.extract (t171 : Int).toNat a0.size)) else (none)) else (none)) = some (r1, r2) := by rw [if_pos rfl] at H; exact H
                clear H
                have H := H1
                clear H1
                by_cases c8 : 0 ≤ t171
                · rw [if_pos c8] at H
                  have c8b0 := eq_true c8
                  have c8b1 : decide (0 ≤ t171) = true := decide_eq_true c8
                  clear c8
                  by_cases c9 : t171 ≤ (a0.size : Int)
                  · rw [if_pos c9] at H
                    have c9b0 := eq_true c9
                    have c9b1 : decide (t171 ≤ (a0.size : Int)) = true := decide_eq_true c9
                    clear c9
                    have H' := Aside0.mk H
                    clear H
                    go_wp2
                    go_meet
                    case rel => exact ⟨_, (x4_1), (a0.extract (t171 : Int).toNat a0.size), (by first | rfl | (simp; done) | (simp [*]; done)), H', ⟨by have := HK1.out; have := HJ4.out; first | omega | exact Nat.le_refl _⟩, ⟨by (with_reducible repeat (first | apply Kd.R_alloc | apply Kd.R_drewN | apply Kd.R_drew)); exact HO_4.out⟩, ⟨by repeat (first | (with_reducible first | exact HB.out | apply below_alloc | apply pw_below_drewN | apply below_drew1) | exact HB.out)⟩⟩
                  · rw [if_neg c9] at H
                    exact absurd H (by simp)
                · rw [if_neg c8] at H
                  exact absurd H (by simp)
              · replace c7 := Bool.eq_false_iff.mpr c7
                subst c7
                have H1 : (if t172.toList = ([] : List UInt8) then (muslinref06_Head.j2 kj4 a0 x4_1 x5_1 x6_1 t171 t172 false) else (if 0 < (t172.size : Int) then ((muslinref06_white.f (bt t172 0)).bind fun t174 => (muslinref06_Head.j2 kj4 a0 x4_1 x5_1 x6_1 t171 t172 t174)) else (none))) = some (r1, r2) := by rw [if_neg (show ¬ (false = true) by decide)] at H; exact H
                clear H
                have H := H1
                clear H1
                have HC10 := Aside0.mk H
                clear H
                go_upto_region 9 with (fail)
                go_cut [39] (fun v39 wc => ∃ (kq : Nat) (x39_9 : Bool), v39 = .bool x39_9 ∧ Aside0 (muslinref06_Head.j2 kq a0 x4_1 x5_1 x6_1 t171 t172 x39_9 = some (r1, r2)) ∧ Aside0 (kq ≤ kj4) ∧ Aside0 (Kd.R k29 29 wc w.heap.size (fun _ => True) u4 x4_1) ∧ Aside0 (Below w.heap.size w wc))
                case first =>
                  have H := HC10.out
                  clear HC10
                  by_cases c11 : t172.toList = ([] : List UInt8)
                  · rw [if_pos c11] at H
                    have c11b0 : (t172.toList == ([] : List UInt8)) = true := beq_iff_eq.mpr c11
                    have c11b1 : (t172.toList != ([] : List UInt8)) = false := bne_eq_false_iff_eq.mpr c11
                    clear c11
                    (first | rw [c11b0] | (simp only [i64_w, i32_w]; rw [c11b0]) | skip)
                    have H' := Aside0.mk H
                    clear H
                    go_wp2
                    go_meet
                    case rel => exact ⟨_, (false), (by first | rfl | (simp; done) | (simp [*]; done)), H', ⟨by have := HK1.out; have := HJ4.out; first | omega | exact Nat.le_refl _⟩, ⟨by (with_reducible repeat (first | apply Kd.R_alloc | apply Kd.R_drewN | apply Kd.R_drew)); exact HO_4.out⟩, ⟨by repeat (first | (with_reducible first | exact HB.out | apply below_alloc | apply pw_below_drewN | apply below_drew1) | exact HB.out)⟩⟩
                  · rw [if_neg c11] at H
                    have c11b0 : (t172.toList == ([] : List UInt8)) = false := beq_eq_false_iff_ne.mpr c11
                    have c11b1 : (t172.toList != ([] : List UInt8)) = true := bne_iff_ne.mpr c11
                    (first | rw [c11b0] | (simp only [i64_w, i32_w]; rw [c11b0]) | skip)
                    by_cases c12 : 0 < (t172.size : Int)
                    · rw [if_pos c12] at H
                      have c12b0 : decide (0 < (t172.size : Int)) = true := decide_eq_true c12
                      have c12b1 : decide (0 < t172.size) = true := decide_eq_true (by omega)
                      clear c12
                      replace H := Option.bind_eq_some_iff.mp H
                      obtain ⟨t174, A140, H⟩ := H
                      replace H : (muslinref06_Head.j2 kj4 a0 x4_1 x5_1 x6_1 t171 t172 t174) = some (r1, r2) := H
                      have A14 := Aside0.mk A140
                      clear A140
                      have H' := Aside0.mk H
                      clear H
                      have p13 : 0 ≤ (0 : Int) := (by omega)
                      have q13 : 0 < t172.size := (by have : (0 : Int) < (t172.size : Int) := of_decide_eq_true (by first | (with_reducible assumption) | assumption); omega)
                      have hx13 : ∀ h : 0 < t172.size, ((t172[0]'h).toNat : Int) = bt t172 0 := bt_at t172 0
                      clear p13
                      have qi13 : (0 < (t172.size : Int)) = True := eq_true (of_decide_eq_true (by first | (with_reducible assumption) | assumption))
                      replace q13 := eq_true q13
                      go_wp2_with (first | (go_at_call 34; (with_reducible refine (muslinref06_white.calls (bt t172 0) t174 _ A14.out).mono ?_); rintro e w' ⟨rfl, ⟨nd, rfl⟩⟩))
                      go_meet
                      case rel => exact ⟨_, (t174), (by first | rfl | (simp; done) | (simp [*]; done)), H', ⟨by have := HK1.out; have := HJ4.out; first | omega | exact Nat.le_refl _⟩, ⟨by (with_reducible repeat (first | apply Kd.R_alloc | apply Kd.R_drewN | apply Kd.R_drew)); exact HO_4.out⟩, ⟨by repeat (first | (with_reducible first | exact HB.out | apply below_alloc | apply pw_below_drewN | apply below_drew1) | exact HB.out)⟩⟩
                    · rw [if_neg c12] at H
                      exact absurd H (by simp)
                case rest =>
                  clear HC10
                  try clear c1
                  try clear p1
                  try clear q1
                  try clear hx1
                  try clear qi1
                  try clear p2
                  try clear c3
                  try clear c3b0
                  try clear c6
                  try clear c6b0
                  try clear c6b1
                  try clear c7
                  try clear c8
                  try clear c8b0
                  try clear c8b1
                  try clear c9
                  try clear c9b0
                  try clear c9b1
                  try clear c11
                  try clear c11b0
                  try clear c11b1
                  try clear c12
                  try clear c12b0
                  try clear c12b1
                  try clear p13
                  try clear q13
                  try clear hx13
                  try clear qi13
                  try clear p13
                  try clear p2
                  try clear q13
                  obtain ⟨kq, x39_9, rfl, HA, HJ9, HO_4, HB⟩ := hcut
                  cases kq with
                  | zero => exact absurd HA.out (by simp [muslinref06_Head.j2])
                  | succ kj9 =>
                    have H := HA.out
                    clear HA
                    simp only [muslinref06_Head.j2] at H
                    by_cases c15 : x39_9 = true
                    · subst c15
                      have H1 : (if x6_1 = true then (if 0 ≤ (wrap64 ((x4_1.length : Int) - 1)) then (if (wrap64 ((x4_1.length : Int) - 1)) < (x4_1.length : Int) then (if ((rd_T29 x4_1 (wrap64 ((x4_1.length : Int) - 1))).f1).size + t172.size ≤ 9223372036854775807 then (muslinref06_Head.l0 kj9 a0 (x4_1.set ((wrap64 ((x4_1.length : Int) - 1)) : Int).toNat (⟨(rd_T29 x4_1 (wrap64 ((x4_1.length : Int) - 1))).f0, ((rd_T29 x4_1 (wrap64 ((x4_1.length : Int) - 1))).f1) ++ t172⟩ : S29)) x5_1 x6_1 t171) else (none)) else (none)) else (none)) else (muslinref06_Head.l0 kj9 a0 x4_1 x5_1 x6_1 t171)) = some (r1, r2) := by rw [if_pos rfl] at H; exact H
                      clear H
                      have H := H1
                      clear H1
                      by_cases c16 : x6_1 = true
                      · subst c16
                        have H1 : (if 0 ≤ (wrap64 ((x4_1.length : Int) - 1)) then (if (wrap64 ((x4_1.length : Int) - 1)) < (x4_1.length : Int) then (if ((rd_T29 x4_1 (wrap64 ((x4_1.length : Int) - 1))).f1).size + t172.size ≤ 9223372036854775807 then (muslinref06_Head.l0 kj9 a0 (x4_1.set ((wrap64 ((x4_1.length : Int) - 1)) : Int).toNat (⟨(rd_T29 x4_1 (wrap64 ((x4_1.length : Int) - 1))).f0, ((rd_T29 x4_1 (wrap64 ((x4_1.length : Int) - 1))).f1) ++ t172⟩ : S29)) x5_1 true t171) else (none)) else (none)) else (none)) = some (r1, r2) := by rw [if_pos rfl] at H; exact H
                        clear H
                        have H := H1
                        clear H1
                        obtain ⟨ji17, hji17⟩ : ∃ j_ : Int, (wrap64 ((x4_1.length : Int) - 1)) = j_ := ⟨_, rfl⟩
                        replace H : (if 0 ≤ (ji17) then (if (ji17) < (x4_1.length : Int) then (if ((rd_T29 x4_1 (ji17)).f1).size + t172.size ≤ 9223372036854775807 then (muslinref06_Head.l0 kj9 a0 (x4_1.set ((ji17) : Int).toNat (⟨(rd_T29 x4_1 (ji17)).f0, ((rd_T29 x4_1 (ji17)).f1) ++ t172⟩ : S29)) x5_1 true t171) else (none)) else (none)) else (none)) = some (r1, r2) := by first | (rw [hji17] at H; exact H) | (simp only [hji17] at H ⊢; exact H)
                        have hji17w : (IntKind.i64.wrap ((x4_1.length : Int) - 1)) = ji17 := (i64_w _).trans hji17
                        by_cases c18 : 0 ≤ (ji17)
                        · rw [if_pos c18] at H
                          have c18b0 : decide (0 ≤ (ji17)) = true := decide_eq_true c18
                          clear c18
                          by_cases c19 : (ji17) < (x4_1.length : Int)
                          · rw [if_pos c19] at H
                            have c19b0 : decide ((ji17) < (x4_1.length : Int)) = true := decide_eq_true c19
                            clear c19
                            by_cases c20 : ((rd_T29 x4_1 (ji17)).f1).size + t172.size ≤ 9223372036854775807
                            · rw [if_pos c20] at H
                              have c20b0 := eq_true c20
                              have c20b1 : decide (((rd_T29 x4_1 (ji17)).f1).size + t172.size ≤ 9223372036854775807) = true := decide_eq_true c20
                              try have c20b2 : (9223372036854775807 < ((rd_T29 x4_1 (ji17)).f1).size + t172.size) = False := eq_false (Nat.not_lt.2 c20)
                              obtain ⟨y176, hy176⟩ : ∃ y_ : List (S29), y_ = (x4_1.set ((ji17) : Int).toNat (⟨(rd_T29 x4_1 (ji17)).f0, ((rd_T29 x4_1 (ji17)).f1) ++ t172⟩ : S29)) := ⟨_, rfl⟩
                              replace H : (muslinref06_Head.l0 kj9 a0 y176 x5_1 true t171) = some (r1, r2) := by first | (rw [hy176]; with_reducible exact H) | (have H2_ := (Option.bind_some _ _).symm.trans H; rw [hy176]; with_reducible exact H2_) | (have H2_ := (Option.bind_some _ _).symm.trans H; with_reducible exact H2_) | with_reducible exact H | (rw [hy176]; exact H) | exact H
                              have Ny176 := Aside0.mk hy176
                              clear hy176
                              have H' := Aside0.mk H
                              clear H
                              obtain ⟨Ao22, co22, eo22⟩ := Kd.R_slice HO_4.out
                              subst eo22
                              have p175 : 0 ≤ ((ji17) : Int) := of_decide_eq_true (by first | (with_reducible assumption) | assumption)
                              have q175 : (ji17) < (x4_1.length : Int) := of_decide_eq_true (by first | (with_reducible assumption) | assumption)
                              obtain ⟨ad175, e175, hx175_0, hx175_1⟩ := at_T29 (Kd.R_reads' HO_4.out).2.2 (ji17) p175 q175
                              cases e175
                              replace p175 := eq_true p175
                              replace q175 := eq_true q175
                              have p21 : 0 ≤ ((ji17) : Int) := of_decide_eq_true (by first | (with_reducible assumption) | assumption)
                              have q21 : ((ji17) : Int) < ((x4_1.length : Int) : Int) := of_decide_eq_true (by first | (with_reducible assumption) | assumption)
                              obtain ⟨go21, co21, eo21, gb21, gl21, cl21, HG21⟩ := Kd.R_form HO_4.out (by omega)
                              (first | cases eo21 | (injection eo21 with ea_ en_ ec_; (first | subst ea_ | (injection ea_ with ea_; subst ea_)); subst ec_; clear en_))
                              have GB21 := Aside0.mk gb21
                              have GG21 := Aside0.mk HG21
                              clear gb21 gl21 HG21
                              (first | simp only [add_plain] at hx175_0 | skip)
                              (first | simp only [add_plain] at hx175_1 | skip)
                              obtain ⟨ce21, hcl21, hM21, hcc21, hfr21⟩ := Kd.R_elem HO_4.out z29 ((ji17) : Int) p21 q21
                              obtain rfl := k29_openM hM21
                              have hx21_0 : wc.cell? ⟨go21, ((ji17) : Int).toNat * 2, none⟩ = some (.string ((rd_T29 x4_1 (ji17)).f0)) := hcc21 0 _ rfl
                              have hx21_1 : wc.cell? ⟨go21, ((ji17) : Int).toNat * 2 + 1, none⟩ = some (.string ((rd_T29 x4_1 (ji17)).f1)) := hcc21 1 _ rfl
                              have hf21_0 : wc.frozen? ⟨go21, ((ji17) : Int).toNat * 2, none⟩ = false := hfr21 0
                              have hf21_1 : wc.frozen? ⟨go21, ((ji17) : Int).toNat * 2 + 1, none⟩ = false := hfr21 1
                              clear hcl21 hcc21 hfr21 hM21
                              replace p21 := eq_true p21
                              replace q21 := eq_true q21
                              have HX23 := Aside0.mk (show Kd.R k29 29 wc w.heap.size (fun _ => True) (.slice (some ⟨go21, 0, none⟩) x4_1.length co22) x4_1 from (by (with_reducible repeat (first | apply Kd.R_alloc | apply Kd.R_drewN | apply Kd.R_drew)); exact HO_4.out))
                              obtain ⟨ce23, hcl23, hM23, hcc23, hfr23⟩ := Kd.R_elem HX23.out z29 ((ji17) : Int) (of_decide_eq_true (by first | (with_reducible assumption) | assumption)) (by have h_ : ((ji17) : Int) < ((x4_1.length : Int) : Int) := of_decide_eq_true (by first | (with_reducible assumption) | assumption); first | exact h_ | (have e_ := (Kd.R_reads' HO_4.out).1; omega) | simpa using h_)
                              obtain rfl := k29_openM hM23
                              have HP23 := Kd.R_seg HX23.out ((ji17) : Int) (of_decide_eq_true (by first | (with_reducible assumption) | assumption)) (by have h_ : ((ji17) : Int) < ((x4_1.length : Int) : Int) := of_decide_eq_true (by first | (with_reducible assumption) | assumption); first | exact h_ | (have e_ := (Kd.R_reads' HO_4.out).1; omega) | simpa using h_) (seg := [.string (((rd_T29 x4_1 (ji17)).f1) ++ t172)]) (j := 1) hcl23 hcc23 (show 2 ≤ 2 from by decide) (x' := (⟨(rd_T29 x4_1 (ji17)).f0, ((rd_T29 x4_1 (ji17)).f1) ++ t172⟩ : S29)) (k29_mkM _ _ _ (⟨(rd_T29 x4_1 (ji17)).f0, ((rd_T29 x4_1 (ji17)).f1) ++ t172⟩ : S29) ) (fun _ hk => hk)
                              have hx23_1 := hcc23 1 _ rfl
                              (try simp only [show (k29).sz = 2 from rfl, Nat.mul_one, Nat.add_zero] at hx23_1)
                              have hf23_1 := hfr23 1
                              (try simp only [show (k29).sz = 2 from rfl, Nat.mul_one, Nat.add_zero] at hf23_1)
                              clear hcl23 hcc23 hfr23 hM23
                              go_wp2_with (first | ((with_reducible refine gate_store (t := 9) (p := 55) rfl ?_); refine store_event (t := 9) (p := 55) (v := ?vo_w24) (w1 := (wc.setCell ⟨go21, ((ji17) : Int).toNat * 2 + 1, none⟩ (.string (((rd_T29 x4_1 (ji17)).f1) ++ t172)))) ?hg ?ho ?hn ?hr ?_; (case ho => rfl); (case hg => rfl); (case hn => rfl); (case hr => first | (go_simp; done) | (go_simp; rfl)); intro w24 hw; have hg : wc.grownBy w24 (some go21) := (by rw [hw]; exact HP23.2); have hp_ : Kd.R k29 29 w24 w.heap.size (fun _ => True) (.slice (some ⟨go21, 0, none⟩) x4_1.length co22) y176 := (by rw [hw, Ny176.out]; exact HP23.1); clear HP23; have n0_ := Aside0.mk (hp_); have n1_ := Aside0.mk ((by rw [hw]; exact below_set (HB.out) GB21.out : Below w.heap.size w w24)); clear HO_4; clear HB; have HO_4 := n0_; have HB := n1_; clear n0_ n1_; clear hg hw hp_))
                              go_roundg kj9
                              case measure => have := HK1.out; have := HJ4.out; have := HJ9.out; omega
                              case rel => exact ⟨(y176), (x5_1), (true), (t171), (by first | rfl | (simp; done) | (simp [*]; done)), (by first | rfl | (simp; done) | (simp [*]; done)), (by first | rfl | (simp; done) | (simp [*]; done)), H', ⟨by have := HK1.out; have := HJ4.out; have := HJ9.out; omega⟩, ⟨by (with_reducible repeat (first | apply Kd.R_alloc | apply Kd.R_drewN | apply Kd.R_drew)); exact HO_4.out⟩, ⟨by repeat (first | (with_reducible first | exact HB.out | apply below_alloc | apply pw_below_drewN | apply below_drew1) | exact HB.out)⟩⟩
                            · rw [if_neg c20] at H
                              exact absurd H (by simp)
                          · rw [if_neg c19] at H
                            exact absurd H (by simp)
                        · rw [if_neg c18] at H
                          exact absurd H (by simp)
                      · replace c16 := Bool.eq_false_iff.mpr c16
                        subst c16
                        have H1 : (muslinref06_Head.l0 kj9 a0 x4_1 x5_1 false t171) = some (r1, r2) := by rw [if_neg (show ¬ (false = true) by decide)] at H; exact H
                        clear H
                        have H := H1
                        clear H1
                        have H' := Aside0.mk H
                        clear H
                        go_wp2
                        go_roundg kj9
                        case measure => have := HK1.out; have := HJ4.out; have := HJ9.out; omega
                        case rel => exact ⟨(x4_1), (x5_1), (false), (t171), (by first | rfl | (simp; done) | (simp [*]; done)), (by first | rfl | (simp; done) | (simp [*]; done)), (by first | rfl | (simp; done) | (simp [*]; done)), H', ⟨by have := HK1.out; have := HJ4.out; have := HJ9.out; omega⟩, ⟨by (with_reducible repeat (first | apply Kd.R_alloc | apply Kd.R_drewN | apply Kd.R_drew)); exact HO_4.out⟩, ⟨by repeat (first | (with_reducible first | exact HB.out | apply below_alloc | apply pw_below_drewN | apply below_drew1) | exact HB.out)⟩⟩
                    · replace c15 := Bool.eq_false_iff.mpr c15
                      subst c15
                      have H1 : ((muslinref06_field.f kj9 t172).bind fun bt177 => (if bt177.2.2 = true then (if (x4_1.length : Int) < 500 then (if x4_1.length < 4398046511104 then (muslinref06_Head.l0 kj9 a0 (x4_1 ++ [(⟨bt177.1, bt177.2.1⟩ : S29)]) x5_1 (decide ((x4_1.length : Int) < 500)) t171) else (none)) else (muslinref06_Head.l0 kj9 a0 x4_1 x5_1 (decide ((x4_1.length : Int) < 500)) t171)) else (muslinref06_Head.l0 kj9 a0 x4_1 x5_1 false t171))) = some (r1, r2) := by rw [if_neg (show ¬ (false = true) by decide)] at H; exact H
                      clear H
                      have H := H1
                      clear H1
                      replace H := Option.bind_eq_some_iff.mp H
                      obtain ⟨⟨t177, t178, t179⟩, A250, H⟩ := H
                      replace H : (if t179 = true then (if (x4_1.length : Int) < 500 then (if x4_1.length < 4398046511104 then (muslinref06_Head.l0 kj9 a0 (x4_1 ++ [(⟨t177, t178⟩ : S29)]) x5_1 (decide ((x4_1.length : Int) < 500)) t171) else (none)) else (muslinref06_Head.l0 kj9 a0 x4_1 x5_1 (decide ((x4_1.length : Int) < 500)) t171)) else (muslinref06_Head.l0 kj9 a0 x4_1 x5_1 false t171)) = some (r1, r2) := H
                      have A25 := Aside0.mk A250
                      clear A250
                      by_cases c26 : t179 = true
                      · subst c26
                        have H1 : (if (x4_1.length : Int) < 500 then (if x4_1.length < 4398046511104 then (muslinref06_Head.l0 kj9 a0 (x4_1 ++ [(⟨t177, t178⟩ : S29)]) x5_1 (decide ((x4_1.length : Int) < 500)) t171) else (none)) else (muslinref06_Head.l0 kj9 a0 x4_1 x5_1 (decide ((x4_1.length : Int) < 500)) t171)) = some (r1, r2) := by rw [if_pos rfl] at H; exact H
                        clear H
                        have H := H1
                        clear H1
                        by_cases c27 : (x4_1.length : Int) < 500
                        · rw [if_pos c27] at H
                          have c27b0 : decide ((x4_1.length : Int) < 500) = true := decide_eq_true c27
                          have c27b1 : decide (x4_1.length < 500) = true := decide_eq_true (by omega)
                          clear c27
                          by_cases c28 : x4_1.length < 4398046511104
                          · rw [if_pos c28] at H
                            have LMc28 := Aside0.mk c28
                            clear c28
                            obtain ⟨y181, hy181⟩ : ∃ y_ : List (S29), y_ = (x4_1 ++ [(⟨t177, t178⟩ : S29)]) := ⟨_, rfl⟩
                            replace H : (muslinref06_Head.l0 kj9 a0 y181 x5_1 (decide ((x4_1.length : Int) < 500)) t171) = some (r1, r2) := by first | (rw [hy181]; with_reducible exact H) | (have H2_ := (Option.bind_some _ _).symm.trans H; rw [hy181]; with_reducible exact H2_) | (have H2_ := (Option.bind_some _ _).symm.trans H; with_reducible exact H2_) | with_reducible exact H | (rw [hy181]; exact H) | exact H
                            have Ny181 := Aside0.mk hy181
                            clear hy181
                            have H' := Aside0.mk H
                            clear H
                            go_wp2_with (first | ((with_reducible refine gate_callee (f := 35) rfl ?_); refine goesL_ (some 58) rfl rfl Tryd.func35 (by kernel_rfl) rfl #[.string t172] rfl (by (try simp only [List.map_toArray, List.map_cons, List.map_nil]); first | done | rfl | (simp only [List.length_drop, List.length_take]; rfl)) ?_; (with_reducible refine (muslinref06_field.calls kj9 t172 t177 t178 true _ A25.out).mono ?_); rintro e w29 ⟨rfl, hb⟩; refine ⟨_, rfl, ?_⟩; have n0_ := Aside0.mk (Kd.R_below (by (with_reducible repeat (first | apply Kd.R_alloc | apply Kd.R_drewN | apply Kd.R_drew)); exact HO_4.out) hb); have n1_ := Aside0.mk (below_step (by repeat (first | (with_reducible first | exact HB.out | apply below_alloc | apply pw_below_drewN | apply below_drew1) | exact HB.out)) hb); clear HO_4; clear HB; have HO_4 := n0_; have HB := n1_; clear n0_ n1_; (try clear hb); (try clear hb2); (try clear hk); (try clear hi)) | ((with_reducible refine gate_dst (N := 11) rfl ?_); (try (refine gate_guard (by rfl) ?_; dsimp only)); refine box_event ?hg (N := 11) ?hd (cs := #[.string (⟨#[]⟩ : ByteArray), .string (⟨#[]⟩ : ByteArray)]) (t := 29) ?hr ?_; (case hd => rfl); (case hg => rfl); (case hr => first | (go_simp; done) | (go_simp; rfl)); intro gb180 hg w30 hbox hb; have n0_ := Aside0.mk (Kd.R_below (Kd.R_elderB (by (with_reducible repeat (first | apply Kd.R_alloc | apply Kd.R_drewN | apply Kd.R_drew)); exact HO_4.out) gb180 (Nat.le_of_eq hg.symm)) hb); have n1_ := Aside0.mk (below_step (by repeat (first | (with_reducible first | exact HB.out | apply below_alloc | apply pw_below_drewN | apply below_drew1) | exact HB.out)) hb); have n2_ := Aside0.mk (hbox); have n3_ := Aside0.mk ((by rw [hg]; exact (below_size (by repeat (first | (with_reducible first | exact HB.out | apply below_alloc | apply pw_below_drewN | apply below_drew1) | exact HB.out))) : w.heap.size ≤ gb180)); have n4_ := Aside0.mk ((by rw [hg]; exact (below_size (by repeat (first | (with_reducible first | exact HB.out | apply below_alloc | apply pw_below_drewN | apply below_drew1) | exact HB.out))) : w.heap.size ≤ gb180)); clear HO_4; clear HB; have HO_4 := n0_; have HB := n1_; have BK180 := n2_; have GW180 := n3_; have GE180 := n4_; clear n0_ n1_ n2_ n3_ n4_; clear hb hbox hg; have hcz31_0 : w30.cell? ⟨gb180, 0, none⟩ = some (.string (⟨#[]⟩ : ByteArray)) := (blk_cell BK180.out 0).trans rfl; have hcz31_1 : w30.cell? ⟨gb180, 1, none⟩ = some (.string (⟨#[]⟩ : ByteArray)) := (blk_cell BK180.out 1).trans rfl; have hfz31_0 := blk_frozen BK180.out 0; have hfz31_1 := blk_frozen BK180.out 1; obtain ⟨Ao32, co32, eo32⟩ := Kd.R_slice HO_4.out; subst eo32) | ((with_reducible refine gate_builtin (b := .append) (xs := #[.tmp 68, .tmp 70]) rfl ?_); (try (refine gate_guard (by rfl) ?_; dsimp only)); at_builtin; refine Kd.R_append k29 (w0 := w) w.heap.size rfl (.tmp 68) (.tmp 70) 27 29 (.agg #[(.string ⟨#[]⟩), (.string ⟨#[]⟩)]) 32 rfl Tryd.underlying27 info29 rfl (by decide) (by omega) (.slice Ao32 x4_1.length co32) x4_1 (⟨t177, t178⟩ : S29) [.string t177, .string t178] (fun k_ => k_ ≠ gb180) (fun _ => False) rfl (by first | (go_simp; done) | (go_simp; rfl)) ?aP (fun _ hk => hk.elim) ?aF ?aO ?aB ?aS ?aL ?_; (case aP => exact k29_mkM _ _ _ (⟨t177, t178⟩ : S29)); (case aB => exact (by repeat (first | (with_reducible first | exact HB.out | apply below_alloc | apply pw_below_drewN | apply below_drew1 | refine below_set ?_ GE180.out) | exact HB.out))); (case aF => exact (fun k_ hk => Kd.freshB (g := gb180) (o := .cells #[.string t177, .string t178] 29 (0, 0)) (by (with_reducible repeat (first | refine blk_drewN ?_ _ | refine blk_drew ?_ | refine blk_alloc ?_ _)); refine blk_put (cs := #[.string t177, .string (⟨#[]⟩ : ByteArray)]) ?_ 1 _ rfl; (with_reducible repeat (first | refine blk_drewN ?_ _ | refine blk_drew ?_ | refine blk_alloc ?_ _)); refine blk_put (cs := #[.string (⟨#[]⟩ : ByteArray), .string (⟨#[]⟩ : ByteArray)]) ?_ 0 _ rfl; (with_reducible repeat (first | refine blk_drewN ?_ _ | refine blk_drew ?_ | refine blk_alloc ?_ _)); exact BK180.out) k_ hk)); (case aO => exact (by (with_reducible repeat (first | apply Kd.R_alloc | apply Kd.R_drewN | apply Kd.R_drew)); exact Kd.R_mono (Kd.R_far (p := ⟨gb180, 1, none⟩) (Kd.R_far (p := ⟨gb180, 0, none⟩) (Kd.R_mono HO_4.out (fun k_ hk => (⟨hk, hk.2⟩ : _ ∧ k_ ≠ gb180))) (fun _ hk => hk.2) (.string t177)) (fun _ hk => hk.2) (.string t178)) (fun _ hk => hk.1.2))); (case aS => exact (below_size (by repeat (first | (with_reducible first | exact HB.out | apply below_alloc | apply pw_below_drewN | apply below_drew1 | refine below_set ?_ GE180.out) | exact HB.out)))); (case aL => have := LMc28.out; omega); intro v182 w33 ho hb hg hat; rw [← Ny181.out] at ho; have n0_ := Aside0.mk (blk_grown (g := gb180) (o := .cells #[.string t177, .string t178] 29 (0, 0)) (by (with_reducible repeat (first | refine blk_drewN ?_ _ | refine blk_drew ?_ | refine blk_alloc ?_ _)); refine blk_put (cs := #[.string t177, .string (⟨#[]⟩ : ByteArray)]) ?_ 1 _ rfl; (with_reducible repeat (first | refine blk_drewN ?_ _ | refine blk_drew ?_ | refine blk_alloc ?_ _)); refine blk_put (cs := #[.string (⟨#[]⟩ : ByteArray), .string (⟨#[]⟩ : ByteArray)]) ?_ 0 _ rfl; (with_reducible repeat (first | refine blk_drewN ?_ _ | refine blk_drew ?_ | refine blk_alloc ?_ _)); exact BK180.out) hg (Kd.R_away HO_4.out (fun _ hk => hk.2))); have n1_ := Aside0.mk (hb); have n2_ := Aside0.mk (ho); clear BK180; clear HB; clear HO_4; have BK180 := n0_; have HB := n1_; have HO183 := n2_; clear n0_ n1_ n2_; clear ho hb hg hat))
                            go_roundg kj9
                            case measure => have := HK1.out; have := HJ4.out; have := HJ9.out; omega
                            case rel => exact ⟨(y181), (x5_1), (decide ((x4_1.length : Int) < 500)), (t171), (by first | rfl | (simp; done) | (simp [*]; done)), (by first | rfl | (simp; done) | (simp [*]; done)), (by first | rfl | (simp; done) | (simp [*]; done)), H', ⟨by have := HK1.out; have := HJ4.out; have := HJ9.out; omega⟩, ⟨by (with_reducible repeat (first | apply Kd.R_alloc | apply Kd.R_drewN | apply Kd.R_drew)); exact Kd.R_mono HO183.out (fun _ hk => trivial)⟩, ⟨by repeat (first | (with_reducible first | exact HB.out | apply below_alloc | apply pw_below_drewN | apply below_drew1 | refine below_set ?_ GE180.out) | exact HB.out)⟩⟩
                          · rw [if_neg c28] at H
                            exact absurd H (by simp)
                        · rw [if_neg c27] at H
                          have c27b0 : decide ((x4_1.length : Int) < 500) = false := decide_eq_false c27
                          have c27b1 : decide (x4_1.length < 500) = false := decide_eq_false (by omega)
                          clear c27
                          have H' := Aside0.mk H
                          clear H
                          go_wp2_with (first | ((with_reducible refine gate_callee (f := 35) rfl ?_); refine goesL_ (some 58) rfl rfl Tryd.func35 (by kernel_rfl) rfl #[.string t172] rfl (by (try simp only [List.map_toArray, List.map_cons, List.map_nil]); first | done | rfl | (simp only [List.length_drop, List.length_take]; rfl)) ?_; (with_reducible refine (muslinref06_field.calls kj9 t172 t177 t178 true _ A25.out).mono ?_); rintro e w34 ⟨rfl, hb⟩; refine ⟨_, rfl, ?_⟩; have n0_ := Aside0.mk (Kd.R_below (by (with_reducible repeat (first | apply Kd.R_alloc | apply Kd.R_drewN | apply Kd.R_drew)); exact HO_4.out) hb); have n1_ := Aside0.mk (below_step (by repeat (first | (with_reducible first | exact HB.out | apply below_alloc | apply pw_below_drewN | apply below_drew1) | exact HB.out)) hb); clear HO_4; clear HB; have HO_4 := n0_; have HB := n1_; clear n0_ n1_; (try clear hb); (try clear hb2); (try clear hk); (try clear hi)) | ((with_reducible refine gate_dst (N := 11) rfl ?_); (try (refine gate_guard (by rfl) ?_; dsimp only)); refine box_event ?hg (N := 11) ?hd (cs := #[.string (⟨#[]⟩ : ByteArray), .string (⟨#[]⟩ : ByteArray)]) (t := 29) ?hr ?_; (case hd => rfl); (case hg => rfl); (case hr => first | (go_simp; done) | (go_simp; rfl)); intro gb180 hg w35 hbox hb; have n0_ := Aside0.mk (Kd.R_below (Kd.R_elderB (by (with_reducible repeat (first | apply Kd.R_alloc | apply Kd.R_drewN | apply Kd.R_drew)); exact HO_4.out) gb180 (Nat.le_of_eq hg.symm)) hb); have n1_ := Aside0.mk (below_step (by repeat (first | (with_reducible first | exact HB.out | apply below_alloc | apply pw_below_drewN | apply below_drew1) | exact HB.out)) hb); have n2_ := Aside0.mk (hbox); have n3_ := Aside0.mk ((by rw [hg]; exact (below_size (by repeat (first | (with_reducible first | exact HB.out | apply below_alloc | apply pw_below_drewN | apply below_drew1) | exact HB.out))) : w.heap.size ≤ gb180)); have n4_ := Aside0.mk ((by rw [hg]; exact (below_size (by repeat (first | (with_reducible first | exact HB.out | apply below_alloc | apply pw_below_drewN | apply below_drew1) | exact HB.out))) : w.heap.size ≤ gb180)); clear HO_4; clear HB; have HO_4 := n0_; have HB := n1_; have BK180 := n2_; have GW180 := n3_; have GE180 := n4_; clear n0_ n1_ n2_ n3_ n4_; clear hb hbox hg; have hcz36_0 : w35.cell? ⟨gb180, 0, none⟩ = some (.string (⟨#[]⟩ : ByteArray)) := (blk_cell BK180.out 0).trans rfl; have hcz36_1 : w35.cell? ⟨gb180, 1, none⟩ = some (.string (⟨#[]⟩ : ByteArray)) := (blk_cell BK180.out 1).trans rfl; have hfz36_0 := blk_frozen BK180.out 0; have hfz36_1 := blk_frozen BK180.out 1; obtain ⟨Ao37, co37, eo37⟩ := Kd.R_slice HO_4.out; subst eo37))
                          go_roundg kj9
                          case measure => have := HK1.out; have := HJ4.out; have := HJ9.out; omega
                          case rel => exact ⟨(x4_1), (x5_1), (decide ((x4_1.length : Int) < 500)), (t171), (by first | rfl | (simp; done) | (simp [*]; done)), (by first | rfl | (simp; done) | (simp [*]; done)), (by first | rfl | (simp; done) | (simp [*]; done)), H', ⟨by have := HK1.out; have := HJ4.out; have := HJ9.out; omega⟩, ⟨by (with_reducible repeat (first | apply Kd.R_alloc | apply Kd.R_drewN | apply Kd.R_drew)); exact Kd.R_mono (Kd.R_far (p := ⟨gb180, 1, none⟩) (Kd.R_far (p := ⟨gb180, 0, none⟩) (Kd.R_mono HO_4.out (fun k_ hk => (⟨hk, hk.2⟩ : _ ∧ k_ ≠ gb180))) (fun _ hk => hk.2) (.string t177)) (fun _ hk => hk.2) (.string t178)) (fun _ hk => trivial)⟩, ⟨by repeat (first | (with_reducible first | exact HB.out | apply below_alloc | apply pw_below_drewN | apply below_drew1 | refine below_set ?_ GE180.out) | exact HB.out)⟩⟩
                      · replace c26 := Bool.eq_false_iff.mpr c26
                        subst c26
                        have H1 : (muslinref06_Head.l0 kj9 a0 x4_1 x5_1 false t171) = some (r1, r2) := by rw [if_neg (show ¬ (false = true) by decide)] at H; exact H
                        clear H
                        have H := H1
                        clear H1
                        have H' := Aside0.mk H
                        clear H
                        go_wp2_with (first | ((with_reducible refine gate_callee (f := 35) rfl ?_); refine goesL_ (some 58) rfl rfl Tryd.func35 (by kernel_rfl) rfl #[.string t172] rfl (by (try simp only [List.map_toArray, List.map_cons, List.map_nil]); first | done | rfl | (simp only [List.length_drop, List.length_take]; rfl)) ?_; (with_reducible refine (muslinref06_field.calls kj9 t172 t177 t178 false _ A25.out).mono ?_); rintro e w38 ⟨rfl, hb⟩; refine ⟨_, rfl, ?_⟩; have n0_ := Aside0.mk (Kd.R_below (by (with_reducible repeat (first | apply Kd.R_alloc | apply Kd.R_drewN | apply Kd.R_drew)); exact HO_4.out) hb); have n1_ := Aside0.mk (below_step (by repeat (first | (with_reducible first | exact HB.out | apply below_alloc | apply pw_below_drewN | apply below_drew1) | exact HB.out)) hb); clear HO_4; clear HB; have HO_4 := n0_; have HB := n1_; clear n0_ n1_; (try clear hb); (try clear hb2); (try clear hk); (try clear hi)) | ((with_reducible refine gate_dst (N := 11) rfl ?_); (try (refine gate_guard (by rfl) ?_; dsimp only)); refine box_event ?hg (N := 11) ?hd (cs := #[.string (⟨#[]⟩ : ByteArray), .string (⟨#[]⟩ : ByteArray)]) (t := 29) ?hr ?_; (case hd => rfl); (case hg => rfl); (case hr => first | (go_simp; done) | (go_simp; rfl)); intro gb180 hg w39 hbox hb; have n0_ := Aside0.mk (Kd.R_below (Kd.R_elderB (by (with_reducible repeat (first | apply Kd.R_alloc | apply Kd.R_drewN | apply Kd.R_drew)); exact HO_4.out) gb180 (Nat.le_of_eq hg.symm)) hb); have n1_ := Aside0.mk (below_step (by repeat (first | (with_reducible first | exact HB.out | apply below_alloc | apply pw_below_drewN | apply below_drew1) | exact HB.out)) hb); have n2_ := Aside0.mk (hbox); have n3_ := Aside0.mk ((by rw [hg]; exact (below_size (by repeat (first | (with_reducible first | exact HB.out | apply below_alloc | apply pw_below_drewN | apply below_drew1) | exact HB.out))) : w.heap.size ≤ gb180)); have n4_ := Aside0.mk ((by rw [hg]; exact (below_size (by repeat (first | (with_reducible first | exact HB.out | apply below_alloc | apply pw_below_drewN | apply below_drew1) | exact HB.out))) : w.heap.size ≤ gb180)); clear HO_4; clear HB; have HO_4 := n0_; have HB := n1_; have BK180 := n2_; have GW180 := n3_; have GE180 := n4_; clear n0_ n1_ n2_ n3_ n4_; clear hb hbox hg; have hcz40_0 : w39.cell? ⟨gb180, 0, none⟩ = some (.string (⟨#[]⟩ : ByteArray)) := (blk_cell BK180.out 0).trans rfl; have hcz40_1 : w39.cell? ⟨gb180, 1, none⟩ = some (.string (⟨#[]⟩ : ByteArray)) := (blk_cell BK180.out 1).trans rfl; have hfz40_0 := blk_frozen BK180.out 0; have hfz40_1 := blk_frozen BK180.out 1))
                        go_roundg kj9
                        case measure => have := HK1.out; have := HJ4.out; have := HJ9.out; omega
                        case rel => exact ⟨(x4_1), (x5_1), (false), (t171), (by first | rfl | (simp; done) | (simp [*]; done)), (by first | rfl | (simp; done) | (simp [*]; done)), (by first | rfl | (simp; done) | (simp [*]; done)), H', ⟨by have := HK1.out; have := HJ4.out; have := HJ9.out; omega⟩, ⟨by (with_reducible repeat (first | apply Kd.R_alloc | apply Kd.R_drewN | apply Kd.R_drew)); exact Kd.R_mono (Kd.R_far (p := ⟨gb180, 1, none⟩) (Kd.R_far (p := ⟨gb180, 0, none⟩) (Kd.R_mono HO_4.out (fun k_ hk => (⟨hk, hk.2⟩ : _ ∧ k_ ≠ gb180))) (fun _ hk => hk.2) (.string t177)) (fun _ hk => hk.2) (.string t178)) (fun _ hk => trivial)⟩, ⟨by repeat (first | (with_reducible first | exact HB.out | apply below_alloc | apply pw_below_drewN | apply below_drew1 | refine below_set ?_ GE180.out) | exact HB.out)⟩⟩
        · rw [if_neg c3] at H
          have c3b0 : decide (x7_1 < (a0.size : Int)) = false := decide_eq_false c3
          clear c3
          (first | rw [c3b0] | (simp only [i64_w, i32_w]; rw [c3b0]) | skip)
          have H' := Aside0.mk H
          clear H
          go_wp2
          go_meet
          case rel => exact ⟨_, (x4_1), (x5_1), (by first | rfl | (simp; done) | (simp [*]; done)), H', ⟨by have := HK1.out; first | omega | exact Nat.le_refl _⟩, ⟨by (with_reducible repeat (first | apply Kd.R_alloc | apply Kd.R_drewN | apply Kd.R_drew)); exact HO_4.out⟩, ⟨by repeat (first | (with_reducible first | exact HB.out | apply below_alloc | apply pw_below_drewN | apply below_drew1) | exact HB.out)⟩⟩
  case rest =>
    clear HC2
    try clear c1
    try clear p1
    try clear q1
    try clear hx1
    try clear qi1
    try clear c2
    try clear p2
    try clear q2
    try clear hx2
    try clear hf2
    try clear c3
    try clear c3b0
    try clear c6
    try clear c6b0
    try clear c6b1
    try clear p6
    try clear c7
    try clear c8
    try clear c8b0
    try clear c8b1
    try clear c9
    try clear c9b0
    try clear c9b1
    try clear c11
    try clear c11b0
    try clear c11b1
    try clear c12
    try clear c12b0
    try clear c12b1
    try clear p13
    try clear q13
    try clear hx13
    try clear qi13
    try clear c15
    try clear c16
    try clear p17
    try clear q17
    try clear hx17
    try clear c18
    try clear c18b0
    try clear c19
    try clear c19b0
    try clear c20
    try clear c20b0
    try clear c20b1
    try clear c20b2
    try clear c21
    try clear p21
    try clear q21
    try clear hx21
    try clear hf21
    try clear c23
    try clear hx23
    try clear hf23
    try clear c26
    try clear c27
    try clear c27b0
    try clear c27b1
    try clear c28
    try clear c33
    try clear c35
    try clear hcz31_0
    try clear hcz31_1
    try clear hcz36_0
    try clear hcz36_1
    try clear hcz40_0
    try clear hcz40_1
    try clear hfz31_0
    try clear hfz31_1
    try clear hfz36_0
    try clear hfz36_1
    try clear hfz40_0
    try clear hfz40_1
    try clear hx175_0
    try clear hx175_1
    try clear hx21_0
    try clear hx21_1
    try clear hx23_1
    try clear p1
    try clear p13
    try clear p175
    try clear p2
    try clear p21
    try clear q1
    try clear q13
    try clear q175
    try clear q21
    obtain ⟨kq, x4_1, x5_1, rfl, HA, HJ1, HO_4, HB⟩ := hcut
    cases kq with
    | zero => exact absurd HA.out (by simp [muslinref06_Head.j3])
    | succ kj1 =>
      have H := HA.out
      clear HA
      simp only [muslinref06_Head.j3] at H
      have H' := Aside0.mk H
      clear H
      go_wp2
      go_loopg [13] kj1 (fun kq v13 w' => ∃ (x4_2 : List (S29)) (x13_2 : Int), v13 = .int .i64 x13_2 ∧ Aside0 (muslinref06_Head.l1 kq x4_2 x5_1 x13_2 = some (r1, r2)) ∧ Aside0 (kq ≤ kj1) ∧ Aside0 (Kd.R k29 29 w' w.heap.size (fun _ => True) u4 x4_2) ∧ Aside0 (Below w.heap.size w w'))
      case atStart => exact ⟨(x4_1), (0), (by first | rfl | (simp; done) | (simp [*]; done)), H', ⟨Nat.le_refl _⟩, ⟨by (with_reducible repeat (first | apply Kd.R_alloc | apply Kd.R_drewN | apply Kd.R_drew)); exact HO_4.out⟩, ⟨by repeat (first | (with_reducible first | exact HB.out | apply below_alloc | apply pw_below_drewN | apply below_drew1) | exact HB.out)⟩⟩
      case round =>
        clear H'
        try clear c1
        try clear p1
        try clear q1
        try clear hx1
        try clear qi1
        try clear c2
        try clear p2
        try clear q2
        try clear hx2
        try clear hf2
        try clear c3
        try clear c3b0
        try clear c6
        try clear c6b0
        try clear c6b1
        try clear p6
        try clear c7
        try clear c8
        try clear c8b0
        try clear c8b1
        try clear c9
        try clear c9b0
        try clear c9b1
        try clear c11
        try clear c11b0
        try clear c11b1
        try clear c12
        try clear c12b0
        try clear c12b1
        try clear p13
        try clear q13
        try clear hx13
        try clear qi13
        try clear c15
        try clear c16
        try clear p17
        try clear q17
        try clear hx17
        try clear c18
        try clear c18b0
        try clear c19
        try clear c19b0
        try clear c20
        try clear c20b0
        try clear c20b1
        try clear c20b2
        try clear c21
        try clear p21
        try clear q21
        try clear hx21
        try clear hf21
        try clear c23
        try clear hx23
        try clear hf23
        try clear c26
        try clear c27
        try clear c27b0
        try clear c27b1
        try clear c28
        try clear c33
        try clear c35
        try clear hcz31_0
        try clear hcz31_1
        try clear hcz36_0
        try clear hcz36_1
        try clear hcz40_0
        try clear hcz40_1
        try clear hfz31_0
        try clear hfz31_1
        try clear hfz36_0
        try clear hfz36_1
        try clear hfz40_0
        try clear hfz40_1
        try clear hx175_0
        try clear hx175_1
        try clear hx21_0
        try clear hx21_1
        try clear hx23_1
        try clear p1
        try clear p13
        try clear p17
        try clear p175
        try clear p2
        try clear p21
        try clear p6
        try clear q1
        try clear q13
        try clear q17
        try clear q175
        try clear q2
        try clear q21
        obtain ⟨x4_2, x13_2, rfl, HA, HK2, HO_4, HB⟩ := hrel
        cases gk with
        | zero => exact absurd HA.out (by simp [muslinref06_Head.l1])
        | succ k2 =>
          have H := HA.out
          clear HA
          simp only [muslinref06_Head.l1] at H
          by_cases c41 : x13_2 < (x4_2.length : Int)
          · rw [if_pos c41] at H
            have c41b0 : decide (x13_2 < (x4_2.length : Int)) = true := decide_eq_true c41
            clear c41
            by_cases c42 : 0 ≤ x13_2
            · rw [if_pos c42] at H
              have c42b0 : decide (0 ≤ x13_2) = true := decide_eq_true c42
              clear c42
              replace H := Option.bind_eq_some_iff.mp H
              obtain ⟨t185, A430, H⟩ := H
              replace H : (muslinref06_Head.l1 k2 (x4_2.set (x13_2 : Int).toNat (⟨(rd_T29 x4_2 x13_2).f0, t185⟩ : S29)) x5_1 (wrap64 (x13_2 + 1))) = some (r1, r2) := H
              have A43 := Aside0.mk A430
              clear A430
              obtain ⟨y186, hy186⟩ : ∃ y_ : List (S29), y_ = (x4_2.set (x13_2 : Int).toNat (⟨(rd_T29 x4_2 x13_2).f0, t185⟩ : S29)) := ⟨_, rfl⟩
              replace H : (muslinref06_Head.l1 k2 y186 x5_1 (wrap64 (x13_2 + 1))) = some (r1, r2) := by first | (rw [hy186]; with_reducible exact H) | (have H2_ := (Option.bind_some _ _).symm.trans H; rw [hy186]; with_reducible exact H2_) | (have H2_ := (Option.bind_some _ _).symm.trans H; with_reducible exact H2_) | with_reducible exact H | (rw [hy186]; exact H) | exact H
              have Ny186 := Aside0.mk hy186
              clear hy186
              have H' := Aside0.mk H
              clear H
              obtain ⟨Ao45, co45, eo45⟩ := Kd.R_slice HO_4.out
              subst eo45
              have p184 : 0 ≤ (x13_2 : Int) := of_decide_eq_true (by first | (with_reducible assumption) | assumption)
              have q184 : x13_2 < (x4_2.length : Int) := of_decide_eq_true (by first | (with_reducible assumption) | assumption)
              obtain ⟨ad184, e184, hx184_0, hx184_1⟩ := at_T29 (Kd.R_reads' HO_4.out).2.2 x13_2 p184 q184
              cases e184
              replace p184 := eq_true p184
              replace q184 := eq_true q184
              go_wp2_with (first | ((with_reducible refine gate_callee (f := 36) rfl ?_); refine goesL_ (some 86) rfl rfl Tryd.func36 (by kernel_rfl) rfl #[.string ((rd_T29 x4_2 x13_2).f1)] rfl (by (try simp only [List.map_toArray, List.map_cons, List.map_nil]); first | done | rfl | (simp only [List.length_drop, List.length_take]; rfl)) ?_; (with_reducible refine (muslinref06_Trim.calls k2 ((rd_T29 x4_2 x13_2).f1) t185 _ A43.out).mono ?_); rintro e w' ⟨rfl, ⟨nd, rfl⟩⟩; refine ⟨_, rfl, ?_⟩; (try (rw [drewN_self wr]; generalize hq_ : World.drewN wr _ = wr; have n0_ : Aside0 (Kd.R k29 29 wr w.heap.size (fun _ => True) (.slice (some ad184) x4_2.length co45) x4_2) := ⟨by rw [← hq_]; exact (by (with_reducible repeat (first | apply Kd.R_alloc | apply Kd.R_drewN | apply Kd.R_drew)); exact HO_4.out)⟩; have n1_ : Aside0 (Below w.heap.size w wr) := ⟨by rw [← hq_]; exact (by repeat (first | (with_reducible first | exact HB.out | apply below_alloc | apply pw_below_drewN | apply below_drew1) | exact HB.out))⟩; clear HO_4 HB hq_; have HO_4 := n0_; have HB := n1_; clear n0_ n1_)); have p44 : 0 ≤ (x13_2 : Int) := of_decide_eq_true (by first | (with_reducible assumption) | assumption); have q44 : (x13_2 : Int) < ((x4_2.length : Int) : Int) := of_decide_eq_true (by first | (with_reducible assumption) | assumption); obtain ⟨go44, co44, eo44, gb44, gl44, cl44, HG44⟩ := Kd.R_form HO_4.out (by omega); (first | cases eo44 | (injection eo44 with ea_ en_ ec_; (first | subst ea_ | (injection ea_ with ea_; subst ea_)); subst ec_; clear en_)); have GB44 := Aside0.mk gb44; have GG44 := Aside0.mk HG44; clear gb44 gl44 HG44; (first | simp only [add_plain] at hx184_0 | skip); (first | simp only [add_plain] at hx184_1 | skip); obtain ⟨ce44, hcl44, hM44, hcc44, hfr44⟩ := Kd.R_elem HO_4.out z29 (x13_2 : Int) p44 q44; obtain rfl := k29_openM hM44; have hx44_0 : wr.cell? ⟨go44, (x13_2 : Int).toNat * 2, none⟩ = some (.string ((rd_T29 x4_2 x13_2).f0)) := hcc44 0 _ rfl; have hx44_1 : wr.cell? ⟨go44, (x13_2 : Int).toNat * 2 + 1, none⟩ = some (.string ((rd_T29 x4_2 x13_2).f1)) := hcc44 1 _ rfl; have hf44_0 : wr.frozen? ⟨go44, (x13_2 : Int).toNat * 2, none⟩ = false := hfr44 0; have hf44_1 : wr.frozen? ⟨go44, (x13_2 : Int).toNat * 2 + 1, none⟩ = false := hfr44 1; clear hcl44 hcc44 hfr44 hM44; replace p44 := eq_true p44; replace q44 := eq_true q44; have HX46 := Aside0.mk (show Kd.R k29 29 wr w.heap.size (fun _ => True) (.slice (some ⟨go44, 0, none⟩) x4_2.length co45) x4_2 from (by (with_reducible repeat (first | apply Kd.R_alloc | apply Kd.R_drewN | apply Kd.R_drew)); exact HO_4.out)); obtain ⟨ce46, hcl46, hM46, hcc46, hfr46⟩ := Kd.R_elem HX46.out z29 (x13_2 : Int) (of_decide_eq_true (by first | (with_reducible assumption) | assumption)) (by have h_ : (x13_2 : Int) < ((x4_2.length : Int) : Int) := of_decide_eq_true (by first | (with_reducible assumption) | assumption); first | exact h_ | (have e_ := (Kd.R_reads' HO_4.out).1; omega) | simpa using h_); obtain rfl := k29_openM hM46; have HP46 := Kd.R_seg HX46.out (x13_2 : Int) (of_decide_eq_true (by first | (with_reducible assumption) | assumption)) (by have h_ : (x13_2 : Int) < ((x4_2.length : Int) : Int) := of_decide_eq_true (by first | (with_reducible assumption) | assumption); first | exact h_ | (have e_ := (Kd.R_reads' HO_4.out).1; omega) | simpa using h_) (seg := [.string t185]) (j := 1) hcl46 hcc46 (show 2 ≤ 2 from by decide) (x' := (⟨(rd_T29 x4_2 x13_2).f0, t185⟩ : S29)) (k29_mkM _ _ _ (⟨(rd_T29 x4_2 x13_2).f0, t185⟩ : S29) ) (fun _ hk => hk); have hx46_1 := hcc46 1 _ rfl; (try simp only [show (k29).sz = 2 from rfl, Nat.mul_one, Nat.add_zero] at hx46_1); have hf46_1 := hfr46 1; (try simp only [show (k29).sz = 2 from rfl, Nat.mul_one, Nat.add_zero] at hf46_1); clear hcl46 hcc46 hfr46 hM46) | ((with_reducible refine gate_store (t := 9) (p := 88) rfl ?_); refine store_event (t := 9) (p := 88) (v := ?vo_w47) (w1 := (wr.setCell ⟨go44, (x13_2 : Int).toNat * 2 + 1, none⟩ (.string t185))) ?hg ?ho ?hn ?hr ?_; (case ho => rfl); (case hg => rfl); (case hn => rfl); (case hr => first | (go_simp; done) | (go_simp; rfl)); intro w47 hw; have hg : wr.grownBy w47 (some go44) := (by rw [hw]; exact HP46.2); have hp_ : Kd.R k29 29 w47 w.heap.size (fun _ => True) (.slice (some ⟨go44, 0, none⟩) x4_2.length co45) y186 := (by rw [hw, Ny186.out]; exact HP46.1); clear HP46; have n0_ := Aside0.mk (hp_); have n1_ := Aside0.mk ((by rw [hw]; exact below_set (HB.out) GB44.out : Below w.heap.size w w47)); clear HO_4; clear HB; have HO_4 := n0_; have HB := n1_; clear n0_ n1_; clear hg hw hp_))
              go_roundg k2
              case measure => have := HJ1.out; have := HK2.out; omega
              case rel => exact ⟨(y186), (wrap64 (x13_2 + 1)), (by first | rfl | (simp; done) | (simp [*]; done)), H', ⟨by have := HJ1.out; have := HK2.out; omega⟩, ⟨by (with_reducible repeat (first | apply Kd.R_alloc | apply Kd.R_drewN | apply Kd.R_drew)); exact HO_4.out⟩, ⟨by repeat (first | (with_reducible first | exact HB.out | apply below_alloc | apply pw_below_drewN | apply below_drew1) | exact HB.out)⟩⟩
            · rw [if_neg c42] at H
              exact absurd H (by simp)
          · rw [if_neg c41] at H
            have c41b0 : decide (x13_2 < (x4_2.length : Int)) = false := decide_eq_false c41
            clear c41
            simp only [Option.some.injEq, Prod.mk.injEq] at H
            obtain ⟨rfl, rfl⟩ := H
            obtain ⟨Ao48, co48, eo48⟩ := Kd.R_slice HO_4.out
            subst eo48
            go_wp2
            go_ret2
            exact ⟨_, by first | rfl | (simp [errW_none, errW_some] <;> rfl) | (simp [*, errW_none, errW_some] <;> rfl), by (with_reducible repeat (first | apply Kd.R_alloc | apply Kd.R_drewN | apply Kd.R_drew)); exact HO_4.out, by repeat (first | (with_reducible first | exact HB.out | apply below_alloc | apply pw_below_drewN | apply below_drew1) | exact HB.out)⟩

-- GIVEN: function 37 (muslinref03_Small): Derived.Test.YtomfdejamngkjaaDoorGiven

end Go.Proofs.YtomfdejamngkjaaDoor.Pr
