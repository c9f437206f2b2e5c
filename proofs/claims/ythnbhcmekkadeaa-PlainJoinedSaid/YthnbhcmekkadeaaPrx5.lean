/- Written by a program of this session (printx.py), with functions proved by hand counted as printed; Lean checks it. -/
import Derived.Test.YthnbhcmekkadeaaPrx0
import Derived.Test.YthnbhcmekkadeaaPrx2
import Derived.Test.YthnbhcmekkadeaaPrx3
import Derived.Test.YthnbhcmekkadeaaPrx4
import Derived.Test.YthnbhcmekkadeaaGiven
namespace Go.Proofs.Ythnbhcmekkadeaa.Pr
open Go.RowKit Go.Proofs.YthnbhcmekkadeaaW.PrintWords Go.Proofs.YthnbhcmekkadeaaW.PrintLast Go.Proofs.YthnbhcmekkadeaaW.PrintMore
attribute [local go_sem] max2_int min2_int max_two min_two max_three min_three max_four min_four   -- for this text's walks alone
set_option linter.unusedVariables false
set_option linter.unusedSimpArgs false

/-! ### plain_Text: function 16 -/
mutual
def plain_Text.l0 : Nat → ByteArray → List (S36) → Int → Int → Option (ByteArray)
  | 0, _, _, _, _ => none
  | k + 1, x3, x8, x9, x10 => if x10 < x9 then (if 0 ≤ x10 then (if x10 < (x8.length : Int) then (if ((rd_T36 x8 x10).f0).toList = ([] : List UInt8) then (if x3.size + ((rd_T36 x8 x10).f2).size ≤ 9223372036854775807 then (plain_Text.l0 k (x3 ++ ((rd_T36 x8 x10).f2)) x8 x9 (wrap64 (x10 + 1))) else (none)) else (if ((rd_T36 x8 x10).f0).toList = ([98, 114] : List UInt8) then (if x3.size + 1 ≤ 9223372036854775807 then (plain_Text.l0 k (x3 ++ (⟨#[10]⟩ : ByteArray)) x8 x9 (wrap64 (x10 + 1))) else (none)) else (if ((rd_T36 x8 x10).f0).toList = ([98, 108, 111, 99, 107, 113, 117, 111, 116, 101] : List UInt8) then (if x3.toList = ([] : List UInt8) then (plain_Text.j1 k x3 x8 x9 x10 false ((rd_T36 x8 x10).f0) ((rd_T36 x8 x10).f1) ((rd_T36 x8 x10).f2) ((rd_T36 x8 x10).f3)) else ((strings_HasSuffix.f x3 (⟨#[10]⟩ : ByteArray)).bind fun t136 => (plain_Text.j1 k x3 x8 x9 x10 (!t136) ((rd_T36 x8 x10).f0) ((rd_T36 x8 x10).f1) ((rd_T36 x8 x10).f2) ((rd_T36 x8 x10).f3)))) else ((plain_Text.f k ((rd_T36 x8 x10).f3)).bind fun t142 => (if x3.size + t142.size ≤ 9223372036854775807 then (plain_Text.l0 k (x3 ++ t142) x8 x9 (wrap64 (x10 + 1))) else (none)))))) else (none)) else (none)) else (some x3)
def plain_Text.j1 : Nat → ByteArray → List (S36) → Int → Int → Bool → ByteArray → List (S51) → ByteArray → List (S36) → Option (ByteArray)
  | 0, _, _, _, _, _, _, _, _, _ => none
  | k + 1, x3, x8, x9, x10, x39, x136000, x136001, x136002, x136003 => if x39 = true then (if x3.size + 1 ≤ 9223372036854775807 then (plain_Text.j2 k (x3 ++ (⟨#[10]⟩ : ByteArray)) x8 x9 x10 x136000 x136001 x136002 x136003) else (none)) else (plain_Text.j2 k x3 x8 x9 x10 x136000 x136001 x136002 x136003)
def plain_Text.j2 : Nat → ByteArray → List (S36) → Int → Int → ByteArray → List (S51) → ByteArray → List (S36) → Option (ByteArray)
  | 0, _, _, _, _, _, _, _, _ => none
  | k + 1, x3, x8, x9, x10, x136000, x136001, x136002, x136003 => (plain_Text.f k x136003).bind fun t137 => ((lines_Cut.f t137).bind fun t138 => (plain_Text.l1 k x3 x8 x9 x10 t138 (t138.length : Int) 0))
def plain_Text.l1 : Nat → ByteArray → List (S36) → Int → Int → List ByteArray → Int → Int → Option (ByteArray)
  | 0, _, _, _, _, _, _, _ => none
  | k + 1, x3, x8, x9, x10, x45, x46, x47 => if x47 < x46 then (if 0 ≤ x47 then (if x47 < (x45.length : Int) then (if 2 + (rdOf ByteArray.empty x45 x47).size ≤ 9223372036854775807 then (if ((⟨#[62, 32]⟩ : ByteArray) ++ (rdOf ByteArray.empty x45 x47)).size + 1 ≤ 9223372036854775807 then (if x3.size + (((⟨#[62, 32]⟩ : ByteArray) ++ (rdOf ByteArray.empty x45 x47)) ++ (⟨#[10]⟩ : ByteArray)).size ≤ 9223372036854775807 then (plain_Text.l1 k (x3 ++ (((⟨#[62, 32]⟩ : ByteArray) ++ (rdOf ByteArray.empty x45 x47)) ++ (⟨#[10]⟩ : ByteArray))) x8 x9 x10 x45 x46 (wrap64 (x47 + 1))) else (none)) else (none)) else (none)) else (none)) else (none)) else (plain_Text.l0 k x3 x8 x9 (wrap64 (x10 + 1)))
def plain_Text.f : Nat → List (S36) → Option (ByteArray)
  | 0, _ => none
  | k + 1, l0 => plain_Text.l0 k (⟨#[]⟩ : ByteArray) l0 (l0.length : Int) 0
end
theorem plain_Text.mono_l : ∀ k, (∀ y0, LeO (plain_Text.f k y0) (plain_Text.f (k + 1) y0)) ∧ (∀ y0 y1 y2 y3, LeO (plain_Text.l0 k y0 y1 y2 y3) (plain_Text.l0 (k + 1) y0 y1 y2 y3)) ∧ (∀ y0 y1 y2 y3 y4 y5 y6 y7 y8, LeO (plain_Text.j1 k y0 y1 y2 y3 y4 y5 y6 y7 y8) (plain_Text.j1 (k + 1) y0 y1 y2 y3 y4 y5 y6 y7 y8)) ∧ (∀ y0 y1 y2 y3 y4 y5 y6 y7, LeO (plain_Text.j2 k y0 y1 y2 y3 y4 y5 y6 y7) (plain_Text.j2 (k + 1) y0 y1 y2 y3 y4 y5 y6 y7)) ∧ (∀ y0 y1 y2 y3 y4 y5 y6, LeO (plain_Text.l1 k y0 y1 y2 y3 y4 y5 y6) (plain_Text.l1 (k + 1) y0 y1 y2 y3 y4 y5 y6))
  | 0 => ⟨fun _ r h => by simp [plain_Text.f] at h, fun _ _ _ _ r h => by simp [plain_Text.l0] at h, fun _ _ _ _ _ _ _ _ _ r h => by simp [plain_Text.j1] at h, fun _ _ _ _ _ _ _ _ r h => by simp [plain_Text.j2] at h, fun _ _ _ _ _ _ _ r h => by simp [plain_Text.l1] at h⟩
  | k + 1 => by
    obtain ⟨ih0, ih1, ih2, ih3, ih4⟩ := plain_Text.mono_l k
    refine ⟨?_, ?_, ?_, ?_, ?_⟩
    · intro y0
      unfold plain_Text.f
      repeat' first
      | (with_reducible exact ih0 _)
      | (with_reducible exact ih1 _ _ _ _)
      | (with_reducible exact ih2 _ _ _ _ _ _ _ _ _)
      | (with_reducible exact ih3 _ _ _ _ _ _ _ _)
      | (with_reducible exact ih4 _ _ _ _ _ _ _)
      | (with_reducible exact LeO.refl _)
      | (with_reducible exact LeO.none _)
      | (with_reducible refine LeO.ite ?_ ?_)
      | (with_reducible refine LeO.bind ?_ (fun _ => ?_))
      | exact ih0 _
      | exact ih1 _ _ _ _
      | exact ih2 _ _ _ _ _ _ _ _ _
      | exact ih3 _ _ _ _ _ _ _ _
      | exact ih4 _ _ _ _ _ _ _
      | exact LeO.none _
      | refine LeO.ite ?_ ?_
      | refine LeO.bind ?_ (fun _ => ?_)
    · intro y0 y1 y2 y3
      unfold plain_Text.l0
      repeat' first
      | (with_reducible exact ih0 _)
      | (with_reducible exact ih1 _ _ _ _)
      | (with_reducible exact ih2 _ _ _ _ _ _ _ _ _)
      | (with_reducible exact ih3 _ _ _ _ _ _ _ _)
      | (with_reducible exact ih4 _ _ _ _ _ _ _)
      | (with_reducible exact LeO.refl _)
      | (with_reducible exact LeO.none _)
      | (with_reducible refine LeO.ite ?_ ?_)
      | (with_reducible refine LeO.bind ?_ (fun _ => ?_))
      | exact ih0 _
      | exact ih1 _ _ _ _
      | exact ih2 _ _ _ _ _ _ _ _ _
      | exact ih3 _ _ _ _ _ _ _ _
      | exact ih4 _ _ _ _ _ _ _
      | exact LeO.none _
      | refine LeO.ite ?_ ?_
      | refine LeO.bind ?_ (fun _ => ?_)
    · intro y0 y1 y2 y3 y4 y5 y6 y7 y8
      unfold plain_Text.j1
      repeat' first
      | (with_reducible exact ih0 _)
      | (with_reducible exact ih1 _ _ _ _)
      | (with_reducible exact ih2 _ _ _ _ _ _ _ _ _)
      | (with_reducible exact ih3 _ _ _ _ _ _ _ _)
      | (with_reducible exact ih4 _ _ _ _ _ _ _)
      | (with_reducible exact LeO.refl _)
      | (with_reducible exact LeO.none _)
      | (with_reducible refine LeO.ite ?_ ?_)
      | (with_reducible refine LeO.bind ?_ (fun _ => ?_))
      | exact ih0 _
      | exact ih1 _ _ _ _
      | exact ih2 _ _ _ _ _ _ _ _ _
      | exact ih3 _ _ _ _ _ _ _ _
      | exact ih4 _ _ _ _ _ _ _
      | exact LeO.none _
      | refine LeO.ite ?_ ?_
      | refine LeO.bind ?_ (fun _ => ?_)
    · intro y0 y1 y2 y3 y4 y5 y6 y7
      unfold plain_Text.j2
      repeat' first
      | (with_reducible exact ih0 _)
      | (with_reducible exact ih1 _ _ _ _)
      | (with_reducible exact ih2 _ _ _ _ _ _ _ _ _)
      | (with_reducible exact ih3 _ _ _ _ _ _ _ _)
      | (with_reducible exact ih4 _ _ _ _ _ _ _)
      | (with_reducible exact LeO.refl _)
      | (with_reducible exact LeO.none _)
      | (with_reducible refine LeO.ite ?_ ?_)
      | (with_reducible refine LeO.bind ?_ (fun _ => ?_))
      | exact ih0 _
      | exact ih1 _ _ _ _
      | exact ih2 _ _ _ _ _ _ _ _ _
      | exact ih3 _ _ _ _ _ _ _ _
      | exact ih4 _ _ _ _ _ _ _
      | exact LeO.none _
      | refine LeO.ite ?_ ?_
      | refine LeO.bind ?_ (fun _ => ?_)
    · intro y0 y1 y2 y3 y4 y5 y6
      unfold plain_Text.l1
      repeat' first
      | (with_reducible exact ih0 _)
      | (with_reducible exact ih1 _ _ _ _)
      | (with_reducible exact ih2 _ _ _ _ _ _ _ _ _)
      | (with_reducible exact ih3 _ _ _ _ _ _ _ _)
      | (with_reducible exact ih4 _ _ _ _ _ _ _)
      | (with_reducible exact LeO.refl _)
      | (with_reducible exact LeO.none _)
      | (with_reducible refine LeO.ite ?_ ?_)
      | (with_reducible refine LeO.bind ?_ (fun _ => ?_))
      | exact ih0 _
      | exact ih1 _ _ _ _
      | exact ih2 _ _ _ _ _ _ _ _ _
      | exact ih3 _ _ _ _ _ _ _ _
      | exact ih4 _ _ _ _ _ _ _
      | exact LeO.none _
      | refine LeO.ite ?_ ?_
      | refine LeO.bind ?_ (fun _ => ?_)
theorem plain_Text.mono : ∀ a0 k, LeO (plain_Text.f k a0) (plain_Text.f (k + 1) a0) := by
  intro a0 k
  obtain ⟨ih0, ih1, ih2, ih3, ih4⟩ := plain_Text.mono_l k
  exact ih0 a0
set_option maxHeartbeats 8000000 in
set_option maxRecDepth 100000 in
theorem plain_Text.calls (k : Nat) : ∀ (A0 : Option Addr) (c0 : Nat) (l0 : List (S36)) (r : ByteArray) (w : World) (hr0 : Kd.C k36 w A0 l0.length l0) (hc0 : l0.length ≤ c0) (h : plain_Text.f k l0 = some r),
    Calls Try.prog 16 #[.slice A0 l0.length c0] w fun e w' => e = .returned (.string r) ∧ Below w.heap.size w w' := by
  induction k using Nat.strongRecOn with
  | _ k ih =>
  intro A0 c0 l0 r w hr0 hc0 h
  cases k with
  | zero => exact absurd h (by simp [plain_Text.f])
  | succ k =>
  simp only [plain_Text.f] at h
  have hu36 := Try.underlying36
  have HR0 := Aside0.mk hr0
  have HC0 := Aside0.mk hc0
  clear hr0 hc0
  have HB := Aside0.mk (Below.refl w.heap.size w)
  have H : (plain_Text.l0 k (⟨#[]⟩ : ByteArray) l0 (l0.length : Int) 0) = some r := h
  clear h
  have H' := Aside0.mk H
  clear H
  go_enter Try.func16, Try.ntmps16
  go_wp2
  go_loopg [3, 10] k (fun kq v3 v10 w' => ∃ (x3_1 : ByteArray) (x10_1 : Int), v3 = .string x3_1 ∧ v10 = .int .i64 x10_1 ∧ Aside0 (plain_Text.l0 kq x3_1 l0 (l0.length : Int) x10_1 = some r) ∧ Aside0 (kq ≤ k) ∧ Aside0 (Below w.heap.size w w'))
  case atStart => exact ⟨((⟨#[]⟩ : ByteArray)), (0), (by first | rfl | (simp; done) | (simp [*]; done)), (by first | rfl | (simp; done) | (simp [*]; done)), H', ⟨Nat.le_refl _⟩, ⟨by repeat (first | (with_reducible first | exact HB.out | apply below_alloc | apply pw_below_drewN | apply below_drew1) | exact HB.out)⟩⟩
  case round =>
    clear H'
    try clear c1
    obtain ⟨x3_1, x10_1, rfl, rfl, HA, HK1, HB⟩ := hrel
    cases gk with
    | zero => exact absurd HA.out (by simp [plain_Text.l0])
    | succ k1 =>
      have H := HA.out
      clear HA
      simp only [plain_Text.l0] at H
      by_cases c2 : x10_1 < (l0.length : Int)
      · rw [if_pos c2] at H
        have c2b0 : decide (x10_1 < (l0.length : Int)) = true := decide_eq_true c2
        clear c2
        by_cases c3 : 0 ≤ x10_1
        · rw [if_pos c3] at H
          have c3b0 : decide (0 ≤ x10_1) = true := decide_eq_true c3
          clear c3
          by_cases c4 : x10_1 < (l0.length : Int)
          · rw [if_pos c4] at H
            have c4b0 : decide (x10_1 < (l0.length : Int)) = true := decide_eq_true c4
            clear c4
            by_cases c5 : ((rd_T36 l0 x10_1).f0).toList = ([] : List UInt8)
            · rw [if_pos c5] at H
              have c5b0 : (((rd_T36 l0 x10_1).f0).toList == ([] : List UInt8)) = true := beq_iff_eq.mpr c5
              have c5b1 : (((rd_T36 l0 x10_1).f0).toList != ([] : List UInt8)) = false := bne_eq_false_iff_eq.mpr c5
              clear c5
              by_cases c6 : x3_1.size + ((rd_T36 l0 x10_1).f2).size ≤ 9223372036854775807
              · rw [if_pos c6] at H
                have c6b0 := eq_true c6
                have c6b1 : decide (x3_1.size + ((rd_T36 l0 x10_1).f2).size ≤ 9223372036854775807) = true := decide_eq_true c6
                try have c6b2 : (9223372036854775807 < x3_1.size + ((rd_T36 l0 x10_1).f2).size) = False := eq_false (Nat.not_lt.2 c6)
                have H' := Aside0.mk H
                clear H
                have p134 : 0 ≤ (x10_1 : Int) := of_decide_eq_true (by first | (with_reducible assumption) | assumption)
                have q134 : x10_1 < (l0.length : Int) := of_decide_eq_true (by first | (with_reducible assumption) | assumption)
                obtain ⟨ad134, A134_1, c134_1, A134_3, c134_3, e134, hx134_0, hx134_1, hx134_2, hx134_3, hl134_1, hi134_1, hl134_3, hi134_3⟩ := at_T36 HR0.out x10_1 p134 q134
                cases e134
                replace hx134_0 := (HB.out.cell (World.block_lt_of_cell? w _ hx134_0)).trans hx134_0
                replace hx134_1 := (HB.out.cell (World.block_lt_of_cell? w _ hx134_1)).trans hx134_1
                replace hx134_2 := (HB.out.cell (World.block_lt_of_cell? w _ hx134_2)).trans hx134_2
                replace hx134_3 := (HB.out.cell (World.block_lt_of_cell? w _ hx134_3)).trans hx134_3
                have HR134_1 := Aside0.mk hi134_1
                have HC134_1 := Aside0.mk hl134_1
                clear hi134_1 hl134_1
                have HR134_3 := Aside0.mk hi134_3
                have HC134_3 := Aside0.mk hl134_3
                clear hi134_3 hl134_3
                replace p134 := eq_true p134
                replace q134 := eq_true q134
                go_wp2_with (first | ((with_reducible refine gate_dst (N := 5) rfl ?_); refine box_event ?hg (N := 5) ?hd (cs := #[.string (⟨#[]⟩ : ByteArray), .slice none 0 0, .string (⟨#[]⟩ : ByteArray), .slice none 0 0]) (t := 36) ?hr ?_; (case hd => rfl); (case hg => rfl); (case hr => first | (go_simp; done) | (go_simp; rfl)); intro gb135 hg w7 hbox hb; have n0_ := Aside0.mk (below_step (by repeat (first | (with_reducible first | exact HB.out | apply below_alloc | apply pw_below_drewN | apply below_drew1) | exact HB.out)) hb); have n1_ := Aside0.mk (hbox); have n2_ := Aside0.mk ((by rw [hg]; exact (below_size (by repeat (first | (with_reducible first | exact HB.out | apply below_alloc | apply pw_below_drewN | apply below_drew1) | exact HB.out))) : w.heap.size ≤ gb135)); have n3_ := Aside0.mk ((by rw [hg]; exact (below_size (by repeat (first | (with_reducible first | exact HB.out | apply below_alloc | apply pw_below_drewN | apply below_drew1) | exact HB.out))) : w.heap.size ≤ gb135)); clear HB; have HB := n0_; have BK135 := n1_; have GW135 := n2_; have GE135 := n3_; clear n0_ n1_ n2_ n3_; clear hb hbox hg; have hcz8_0 : w7.cell? ⟨gb135, 0, none⟩ = some (.string (⟨#[]⟩ : ByteArray)) := (blk_cell BK135.out 0).trans rfl; have hcz8_1 : w7.cell? ⟨gb135, 1, none⟩ = some (.slice none 0 0) := (blk_cell BK135.out 1).trans rfl; have hcz8_2 : w7.cell? ⟨gb135, 2, none⟩ = some (.string (⟨#[]⟩ : ByteArray)) := (blk_cell BK135.out 2).trans rfl; have hcz8_3 : w7.cell? ⟨gb135, 3, none⟩ = some (.slice none 0 0) := (blk_cell BK135.out 3).trans rfl; have hfz8_0 := blk_frozen BK135.out 0; have hfz8_1 := blk_frozen BK135.out 1; have hfz8_2 := blk_frozen BK135.out 2; have hfz8_3 := blk_frozen BK135.out 3))
                go_roundg k1
                case measure => have := HK1.out; omega
                case rel => exact ⟨(x3_1 ++ ((rd_T36 l0 x10_1).f2)), (wrap64 (x10_1 + 1)), (by first | rfl | (simp; done) | (simp [*]; done)), (by first | rfl | (simp; done) | (simp [*]; done)), H', ⟨by have := HK1.out; omega⟩, ⟨by repeat (first | (with_reducible first | exact HB.out | apply below_alloc | apply pw_below_drewN | apply below_drew1 | refine below_set ?_ GE135.out) | exact HB.out)⟩⟩
              · rw [if_neg c6] at H
                exact absurd H (by simp)
            · rw [if_neg c5] at H
              have c5b0 : (((rd_T36 l0 x10_1).f0).toList == ([] : List UInt8)) = false := beq_eq_false_iff_ne.mpr c5
              have c5b1 : (((rd_T36 l0 x10_1).f0).toList != ([] : List UInt8)) = true := bne_iff_ne.mpr c5
              by_cases c9 : ((rd_T36 l0 x10_1).f0).toList = ([98, 114] : List UInt8)
              · rw [if_pos c9] at H
                have c9b0 : (((rd_T36 l0 x10_1).f0).toList == ([98, 114] : List UInt8)) = true := beq_iff_eq.mpr c9
                have c9b1 : (((rd_T36 l0 x10_1).f0).toList != ([98, 114] : List UInt8)) = false := bne_eq_false_iff_eq.mpr c9
                clear c9
                by_cases c10 : x3_1.size + 1 ≤ 9223372036854775807
                · rw [if_pos c10] at H
                  have c10b0 := eq_true c10
                  have c10b1 : decide (x3_1.size + 1 ≤ 9223372036854775807) = true := decide_eq_true c10
                  try have c10b2 : (9223372036854775807 < x3_1.size + 1) = False := eq_false (Nat.not_lt.2 c10)
                  have H' := Aside0.mk H
                  clear H
                  have p134 : 0 ≤ (x10_1 : Int) := of_decide_eq_true (by first | (with_reducible assumption) | assumption)
                  have q134 : x10_1 < (l0.length : Int) := of_decide_eq_true (by first | (with_reducible assumption) | assumption)
                  obtain ⟨ad134, A134_1, c134_1, A134_3, c134_3, e134, hx134_0, hx134_1, hx134_2, hx134_3, hl134_1, hi134_1, hl134_3, hi134_3⟩ := at_T36 HR0.out x10_1 p134 q134
                  cases e134
                  replace hx134_0 := (HB.out.cell (World.block_lt_of_cell? w _ hx134_0)).trans hx134_0
                  replace hx134_1 := (HB.out.cell (World.block_lt_of_cell? w _ hx134_1)).trans hx134_1
                  replace hx134_2 := (HB.out.cell (World.block_lt_of_cell? w _ hx134_2)).trans hx134_2
                  replace hx134_3 := (HB.out.cell (World.block_lt_of_cell? w _ hx134_3)).trans hx134_3
                  have HR134_1 := Aside0.mk hi134_1
                  have HC134_1 := Aside0.mk hl134_1
                  clear hi134_1 hl134_1
                  have HR134_3 := Aside0.mk hi134_3
                  have HC134_3 := Aside0.mk hl134_3
                  clear hi134_3 hl134_3
                  replace p134 := eq_true p134
                  replace q134 := eq_true q134
                  go_wp2_with (first | ((with_reducible refine gate_dst (N := 5) rfl ?_); refine box_event ?hg (N := 5) ?hd (cs := #[.string (⟨#[]⟩ : ByteArray), .slice none 0 0, .string (⟨#[]⟩ : ByteArray), .slice none 0 0]) (t := 36) ?hr ?_; (case hd => rfl); (case hg => rfl); (case hr => first | (go_simp; done) | (go_simp; rfl)); intro gb135 hg w11 hbox hb; have n0_ := Aside0.mk (below_step (by repeat (first | (with_reducible first | exact HB.out | apply below_alloc | apply pw_below_drewN | apply below_drew1) | exact HB.out)) hb); have n1_ := Aside0.mk (hbox); have n2_ := Aside0.mk ((by rw [hg]; exact (below_size (by repeat (first | (with_reducible first | exact HB.out | apply below_alloc | apply pw_below_drewN | apply below_drew1) | exact HB.out))) : w.heap.size ≤ gb135)); have n3_ := Aside0.mk ((by rw [hg]; exact (below_size (by repeat (first | (with_reducible first | exact HB.out | apply below_alloc | apply pw_below_drewN | apply below_drew1) | exact HB.out))) : w.heap.size ≤ gb135)); clear HB; have HB := n0_; have BK135 := n1_; have GW135 := n2_; have GE135 := n3_; clear n0_ n1_ n2_ n3_; clear hb hbox hg; have hcz12_0 : w11.cell? ⟨gb135, 0, none⟩ = some (.string (⟨#[]⟩ : ByteArray)) := (blk_cell BK135.out 0).trans rfl; have hcz12_1 : w11.cell? ⟨gb135, 1, none⟩ = some (.slice none 0 0) := (blk_cell BK135.out 1).trans rfl; have hcz12_2 : w11.cell? ⟨gb135, 2, none⟩ = some (.string (⟨#[]⟩ : ByteArray)) := (blk_cell BK135.out 2).trans rfl; have hcz12_3 : w11.cell? ⟨gb135, 3, none⟩ = some (.slice none 0 0) := (blk_cell BK135.out 3).trans rfl; have hfz12_0 := blk_frozen BK135.out 0; have hfz12_1 := blk_frozen BK135.out 1; have hfz12_2 := blk_frozen BK135.out 2; have hfz12_3 := blk_frozen BK135.out 3))
                  go_roundg k1
                  case measure => have := HK1.out; omega
                  case rel => exact ⟨(x3_1 ++ (⟨#[10]⟩ : ByteArray)), (wrap64 (x10_1 + 1)), (by first | rfl | (simp; done) | (simp [*]; done)), (by first | rfl | (simp; done) | (simp [*]; done)), H', ⟨by have := HK1.out; omega⟩, ⟨by repeat (first | (with_reducible first | exact HB.out | apply below_alloc | apply pw_below_drewN | apply below_drew1 | refine below_set ?_ GE135.out) | exact HB.out)⟩⟩
                · rw [if_neg c10] at H
                  exact absurd H (by simp)
              · rw [if_neg c9] at H
                have c9b0 : (((rd_T36 l0 x10_1).f0).toList == ([98, 114] : List UInt8)) = false := beq_eq_false_iff_ne.mpr c9
                have c9b1 : (((rd_T36 l0 x10_1).f0).toList != ([98, 114] : List UInt8)) = true := bne_iff_ne.mpr c9
                by_cases c13 : ((rd_T36 l0 x10_1).f0).toList = ([98, 108, 111, 99, 107, 113, 117, 111, 116, 101] : List UInt8)
                · rw [if_pos c13] at H
                  have c13b0 : (((rd_T36 l0 x10_1).f0).toList == ([98, 108, 111, 99, 107, 113, 117, 111, 116, 101] : List UInt8)) = true := beq_iff_eq.mpr c13
                  have c13b1 : (((rd_T36 l0 x10_1).f0).toList != ([98, 108, 111, 99, 107, 113, 117, 111, 116, 101] : List UInt8)) = false := bne_eq_false_iff_eq.mpr c13
                  clear c13
                  have HC14 := Aside0.mk H
                  clear H
                  have p134 : 0 ≤ (x10_1 : Int) := of_decide_eq_true (by first | (with_reducible assumption) | assumption)
                  have q134 : x10_1 < (l0.length : Int) := of_decide_eq_true (by first | (with_reducible assumption) | assumption)
                  obtain ⟨ad134, A134_1, c134_1, A134_3, c134_3, e134, hx134_0, hx134_1, hx134_2, hx134_3, hl134_1, hi134_1, hl134_3, hi134_3⟩ := at_T36 HR0.out x10_1 p134 q134
                  cases e134
                  replace hx134_0 := (HB.out.cell (World.block_lt_of_cell? w _ hx134_0)).trans hx134_0
                  replace hx134_1 := (HB.out.cell (World.block_lt_of_cell? w _ hx134_1)).trans hx134_1
                  replace hx134_2 := (HB.out.cell (World.block_lt_of_cell? w _ hx134_2)).trans hx134_2
                  replace hx134_3 := (HB.out.cell (World.block_lt_of_cell? w _ hx134_3)).trans hx134_3
                  have HR134_1 := Aside0.mk hi134_1
                  have HC134_1 := Aside0.mk hl134_1
                  clear hi134_1 hl134_1
                  have HR134_3 := Aside0.mk hi134_3
                  have HC134_3 := Aside0.mk hl134_3
                  clear hi134_3 hl134_3
                  replace p134 := eq_true p134
                  replace q134 := eq_true q134
                  go_upto_region 12 with (first | ((with_reducible refine gate_dst (N := 5) rfl ?_); refine box_event ?hg (N := 5) ?hd (cs := #[.string (⟨#[]⟩ : ByteArray), .slice none 0 0, .string (⟨#[]⟩ : ByteArray), .slice none 0 0]) (t := 36) ?hr ?_; (case hd => rfl); (case hg => rfl); (case hr => first | (go_simp; done) | (go_simp; rfl)); intro gb135 hg w15 hbox hb; have n0_ := Aside0.mk (below_step (by repeat (first | (with_reducible first | exact HB.out | apply below_alloc | apply pw_below_drewN | apply below_drew1) | exact HB.out)) hb); have n1_ := Aside0.mk (hbox); have n2_ := Aside0.mk ((by rw [hg]; exact (below_size (by repeat (first | (with_reducible first | exact HB.out | apply below_alloc | apply pw_below_drewN | apply below_drew1) | exact HB.out))) : w.heap.size ≤ gb135)); have n3_ := Aside0.mk ((by rw [hg]; exact (below_size (by repeat (first | (with_reducible first | exact HB.out | apply below_alloc | apply pw_below_drewN | apply below_drew1) | exact HB.out))) : w.heap.size ≤ gb135)); clear HB; have HB := n0_; have BK135 := n1_; have GW135 := n2_; have GE135 := n3_; clear n0_ n1_ n2_ n3_; clear hb hbox hg; have hcz16_0 : w15.cell? ⟨gb135, 0, none⟩ = some (.string (⟨#[]⟩ : ByteArray)) := (blk_cell BK135.out 0).trans rfl; have hcz16_1 : w15.cell? ⟨gb135, 1, none⟩ = some (.slice none 0 0) := (blk_cell BK135.out 1).trans rfl; have hcz16_2 : w15.cell? ⟨gb135, 2, none⟩ = some (.string (⟨#[]⟩ : ByteArray)) := (blk_cell BK135.out 2).trans rfl; have hcz16_3 : w15.cell? ⟨gb135, 3, none⟩ = some (.slice none 0 0) := (blk_cell BK135.out 3).trans rfl; have hfz16_0 := blk_frozen BK135.out 0; have hfz16_1 := blk_frozen BK135.out 1; have hfz16_2 := blk_frozen BK135.out 2; have hfz16_3 := blk_frozen BK135.out 3))
                  (try simp only [Act.put, List.setIfInBounds_toArray, List.set_cons_zero, List.set_cons_succ])
                  go_cut [39] (fun v39 wc => ∃ (kq : Nat) (x39_13 : Bool), v39 = .bool x39_13 ∧ Aside0 (plain_Text.j1 kq x3_1 l0 (l0.length : Int) x10_1 x39_13 ((rd_T36 l0 x10_1).f0) ((rd_T36 l0 x10_1).f1) ((rd_T36 l0 x10_1).f2) ((rd_T36 l0 x10_1).f3) = some r) ∧ Aside0 (kq ≤ k1) ∧ Aside0 (wc.heap[gb135]? = some (.cells #[.string ((rd_T36 l0 x10_1).f0), (.slice A134_1 ((rd_T36 l0 x10_1).f1).length c134_1), .string ((rd_T36 l0 x10_1).f2), (.slice A134_3 ((rd_T36 l0 x10_1).f3).length c134_3)] 36 (0, 0))) ∧ Aside0 (Below w.heap.size w wc))
                  case first =>
                    have H := HC14.out
                    clear HC14
                    by_cases c17 : x3_1.toList = ([] : List UInt8)
                    · rw [if_pos c17] at H
                      have c17b0 : (x3_1.toList == ([] : List UInt8)) = true := beq_iff_eq.mpr c17
                      have c17b1 : (x3_1.toList != ([] : List UInt8)) = false := bne_eq_false_iff_eq.mpr c17
                      clear c17
                      (first | rw [c17b0] | (simp only [i64_w, i32_w]; rw [c17b0]) | skip)
                      have H' := Aside0.mk H
                      clear H
                      go_wp2
                      go_meet
                      case rel => exact ⟨_, (false), (by first | rfl | (simp; done) | (simp [*]; done)), H', ⟨by have := HK1.out; first | omega | exact Nat.le_refl _⟩, ⟨by (with_reducible repeat (first | refine blk_drewN ?_ _ | refine blk_drew ?_ | refine blk_alloc ?_ _)); refine blk_put (cs := #[.string ((rd_T36 l0 x10_1).f0), .slice A134_1 ((rd_T36 l0 x10_1).f1).length c134_1, .string ((rd_T36 l0 x10_1).f2), .slice none 0 0]) ?_ 3 _ rfl; (with_reducible repeat (first | refine blk_drewN ?_ _ | refine blk_drew ?_ | refine blk_alloc ?_ _)); refine blk_put (cs := #[.string ((rd_T36 l0 x10_1).f0), .slice A134_1 ((rd_T36 l0 x10_1).f1).length c134_1, .string (⟨#[]⟩ : ByteArray), .slice none 0 0]) ?_ 2 _ rfl; (with_reducible repeat (first | refine blk_drewN ?_ _ | refine blk_drew ?_ | refine blk_alloc ?_ _)); refine blk_put (cs := #[.string ((rd_T36 l0 x10_1).f0), .slice none 0 0, .string (⟨#[]⟩ : ByteArray), .slice none 0 0]) ?_ 1 _ rfl; (with_reducible repeat (first | refine blk_drewN ?_ _ | refine blk_drew ?_ | refine blk_alloc ?_ _)); refine blk_put (cs := #[.string (⟨#[]⟩ : ByteArray), .slice none 0 0, .string (⟨#[]⟩ : ByteArray), .slice none 0 0]) ?_ 0 _ rfl; (with_reducible repeat (first | refine blk_drewN ?_ _ | refine blk_drew ?_ | refine blk_alloc ?_ _)); exact BK135.out⟩, ⟨by repeat (first | (with_reducible first | exact HB.out | apply below_alloc | apply pw_below_drewN | apply below_drew1 | refine below_set ?_ GE135.out) | exact HB.out)⟩⟩
                    · rw [if_neg c17] at H
                      have c17b0 : (x3_1.toList == ([] : List UInt8)) = false := beq_eq_false_iff_ne.mpr c17
                      have c17b1 : (x3_1.toList != ([] : List UInt8)) = true := bne_iff_ne.mpr c17
                      (first | rw [c17b0] | (simp only [i64_w, i32_w]; rw [c17b0]) | skip)
                      replace H := Option.bind_eq_some_iff.mp H
                      obtain ⟨t136, A180, H⟩ := H
                      replace H : (plain_Text.j1 k1 x3_1 l0 (l0.length : Int) x10_1 (!t136) ((rd_T36 l0 x10_1).f0) ((rd_T36 l0 x10_1).f1) ((rd_T36 l0 x10_1).f2) ((rd_T36 l0 x10_1).f3)) = some r := H
                      have A18 := Aside0.mk A180
                      clear A180
                      have H' := Aside0.mk H
                      clear H
                      go_wp2_with (first | (go_at_call 26; (with_reducible refine (strings_HasSuffix.calls x3_1 (⟨#[10]⟩ : ByteArray) t136 _ A18.out).mono ?_); rintro e w' ⟨rfl, ⟨nd, rfl⟩⟩))
                      go_meet
                      case rel => exact ⟨_, (!t136), (by first | rfl | (simp; done) | (simp [*]; done)), H', ⟨by have := HK1.out; first | omega | exact Nat.le_refl _⟩, ⟨by (with_reducible repeat (first | refine blk_drewN ?_ _ | refine blk_drew ?_ | refine blk_alloc ?_ _)); refine blk_put (cs := #[.string ((rd_T36 l0 x10_1).f0), .slice A134_1 ((rd_T36 l0 x10_1).f1).length c134_1, .string ((rd_T36 l0 x10_1).f2), .slice none 0 0]) ?_ 3 _ rfl; (with_reducible repeat (first | refine blk_drewN ?_ _ | refine blk_drew ?_ | refine blk_alloc ?_ _)); refine blk_put (cs := #[.string ((rd_T36 l0 x10_1).f0), .slice A134_1 ((rd_T36 l0 x10_1).f1).length c134_1, .string (⟨#[]⟩ : ByteArray), .slice none 0 0]) ?_ 2 _ rfl; (with_reducible repeat (first | refine blk_drewN ?_ _ | refine blk_drew ?_ | refine blk_alloc ?_ _)); refine blk_put (cs := #[.string ((rd_T36 l0 x10_1).f0), .slice none 0 0, .string (⟨#[]⟩ : ByteArray), .slice none 0 0]) ?_ 1 _ rfl; (with_reducible repeat (first | refine blk_drewN ?_ _ | refine blk_drew ?_ | refine blk_alloc ?_ _)); refine blk_put (cs := #[.string (⟨#[]⟩ : ByteArray), .slice none 0 0, .string (⟨#[]⟩ : ByteArray), .slice none 0 0]) ?_ 0 _ rfl; (with_reducible repeat (first | refine blk_drewN ?_ _ | refine blk_drew ?_ | refine blk_alloc ?_ _)); exact BK135.out⟩, ⟨by repeat (first | (with_reducible first | exact HB.out | apply below_alloc | apply pw_below_drewN | apply below_drew1 | refine below_set ?_ GE135.out) | exact HB.out)⟩⟩
                  case rest =>
                    clear HC14
                    try clear c1
                    try clear p1
                    try clear q1
                    try clear hx1
                    try clear c2
                    try clear c2b0
                    try clear p2
                    try clear c3
                    try clear c3b0
                    try clear c4
                    try clear c4b0
                    try clear c5
                    try clear c5b0
                    try clear c5b1
                    try clear c6
                    try clear c6b0
                    try clear c6b1
                    try clear c6b2
                    try clear p6
                    try clear c9
                    try clear c9b0
                    try clear c9b1
                    try clear c10
                    try clear c10b0
                    try clear c10b1
                    try clear c10b2
                    try clear c13
                    try clear c13b0
                    try clear c13b1
                    try clear p13
                    try clear q13
                    try clear hx13
                    try clear c16
                    try clear c17
                    try clear c17b0
                    try clear c17b1
                    try clear hcz12_0
                    try clear hcz12_1
                    try clear hcz12_2
                    try clear hcz12_3
                    try clear hcz16_0
                    try clear hcz16_1
                    try clear hcz16_2
                    try clear hcz16_3
                    try clear hcz8_0
                    try clear hcz8_1
                    try clear hcz8_2
                    try clear hcz8_3
                    try clear hfz12_0
                    try clear hfz12_1
                    try clear hfz12_2
                    try clear hfz12_3
                    try clear hfz16_0
                    try clear hfz16_1
                    try clear hfz16_2
                    try clear hfz16_3
                    try clear hfz8_0
                    try clear hfz8_1
                    try clear hfz8_2
                    try clear hfz8_3
                    try clear hx134_0
                    try clear hx134_1
                    try clear hx134_2
                    try clear hx134_3
                    try clear p134
                    try clear q134
                    obtain ⟨kq, x39_13, rfl, HA, HJ13, BK135, HB⟩ := hcut
                    cases kq with
                    | zero => exact absurd HA.out (by simp [plain_Text.j1])
                    | succ kj13 =>
                      have H := HA.out
                      clear HA
                      simp only [plain_Text.j1] at H
                      have HC19 := Aside0.mk H
                      clear H
                      go_upto_if 39 with (fail)
                      go_cut [3] (fun v3 wc => ∃ (kq : Nat) (x3_18 : ByteArray), v3 = .string x3_18 ∧ Aside0 (plain_Text.j2 kq x3_18 l0 (l0.length : Int) x10_1 ((rd_T36 l0 x10_1).f0) ((rd_T36 l0 x10_1).f1) ((rd_T36 l0 x10_1).f2) ((rd_T36 l0 x10_1).f3) = some r) ∧ Aside0 (kq ≤ kj13) ∧ Aside0 (wc.heap[gb135]? = some (.cells #[.string ((rd_T36 l0 x10_1).f0), (.slice A134_1 ((rd_T36 l0 x10_1).f1).length c134_1), .string ((rd_T36 l0 x10_1).f2), (.slice A134_3 ((rd_T36 l0 x10_1).f3).length c134_3)] 36 (0, 0))) ∧ Aside0 (Below w.heap.size w wc))
                      case first =>
                        have H := HC19.out
                        clear HC19
                        by_cases c20 : x39_13 = true
                        · subst c20
                          have H1 : (if x3_1.size + 1 ≤ 9223372036854775807 then (plain_Text.j2 kj13 (x3_1 ++ (⟨#[10]⟩ : ByteArray)) l0 (l0.length : Int) x10_1 ((rd_T36 l0 x10_1).f0) ((rd_T36 l0 x10_1).f1) ((rd_T36 l0 x10_1).f2) ((rd_T36 l0 x10_1).f3)) else (none)) = some r := by rw [if_pos rfl] at H; exact H
                          clear H
                          have H := H1
                          clear H1
                          by_cases c21 : x3_1.size + 1 ≤ 9223372036854775807
                          · rw [if_pos c21] at H
                            have c21b0 := eq_true c21
                            have c21b1 : decide (x3_1.size + 1 ≤ 9223372036854775807) = true := decide_eq_true c21
                            try have c21b2 : (9223372036854775807 < x3_1.size + 1) = False := eq_false (Nat.not_lt.2 c21)
                            have H' := Aside0.mk H
                            clear H
                            go_wp2
                            go_meet
                            case rel => exact ⟨_, (x3_1 ++ (⟨#[10]⟩ : ByteArray)), (by first | rfl | (simp; done) | (simp [*]; done)), H', ⟨by have := HK1.out; have := HJ13.out; first | omega | exact Nat.le_refl _⟩, ⟨by (with_reducible repeat (first | refine blk_drewN ?_ _ | refine blk_drew ?_ | refine blk_alloc ?_ _)); exact BK135.out⟩, ⟨by repeat (first | (with_reducible first | exact HB.out | apply below_alloc | apply pw_below_drewN | apply below_drew1 | refine below_set ?_ GE135.out) | exact HB.out)⟩⟩
                          · rw [if_neg c21] at H
                            exact absurd H (by simp)
                        · replace c20 := Bool.eq_false_iff.mpr c20
                          subst c20
                          have H1 : (plain_Text.j2 kj13 x3_1 l0 (l0.length : Int) x10_1 ((rd_T36 l0 x10_1).f0) ((rd_T36 l0 x10_1).f1) ((rd_T36 l0 x10_1).f2) ((rd_T36 l0 x10_1).f3)) = some r := by rw [if_neg (show ¬ (false = true) by decide)] at H; exact H
                          clear H
                          have H := H1
                          clear H1
                          have H' := Aside0.mk H
                          clear H
                          go_wp2
                          go_meet
                          case rel => exact ⟨_, (x3_1), (by first | rfl | (simp; done) | (simp [*]; done)), H', ⟨by have := HK1.out; have := HJ13.out; first | omega | exact Nat.le_refl _⟩, ⟨by (with_reducible repeat (first | refine blk_drewN ?_ _ | refine blk_drew ?_ | refine blk_alloc ?_ _)); exact BK135.out⟩, ⟨by repeat (first | (with_reducible first | exact HB.out | apply below_alloc | apply pw_below_drewN | apply below_drew1 | refine below_set ?_ GE135.out) | exact HB.out)⟩⟩
                      case rest =>
                        clear HC19
                        try clear c1
                        try clear p1
                        try clear q1
                        try clear hx1
                        try clear c2
                        try clear c2b0
                        try clear p2
                        try clear c3
                        try clear c3b0
                        try clear c4
                        try clear c4b0
                        try clear c5
                        try clear c5b0
                        try clear c5b1
                        try clear c6
                        try clear c6b0
                        try clear c6b1
                        try clear c6b2
                        try clear p6
                        try clear c9
                        try clear c9b0
                        try clear c9b1
                        try clear c10
                        try clear c10b0
                        try clear c10b1
                        try clear c10b2
                        try clear c13
                        try clear c13b0
                        try clear c13b1
                        try clear p13
                        try clear q13
                        try clear hx13
                        try clear c16
                        try clear c17
                        try clear c17b0
                        try clear c17b1
                        try clear c20
                        try clear c21
                        try clear c21b0
                        try clear c21b1
                        try clear c21b2
                        try clear hcz12_0
                        try clear hcz12_1
                        try clear hcz12_2
                        try clear hcz12_3
                        try clear hcz16_0
                        try clear hcz16_1
                        try clear hcz16_2
                        try clear hcz16_3
                        try clear hcz8_0
                        try clear hcz8_1
                        try clear hcz8_2
                        try clear hcz8_3
                        try clear hfz12_0
                        try clear hfz12_1
                        try clear hfz12_2
                        try clear hfz12_3
                        try clear hfz16_0
                        try clear hfz16_1
                        try clear hfz16_2
                        try clear hfz16_3
                        try clear hfz8_0
                        try clear hfz8_1
                        try clear hfz8_2
                        try clear hfz8_3
                        try clear hx134_0
                        try clear hx134_1
                        try clear hx134_2
                        try clear hx134_3
                        try clear p1
                        try clear p13
                        try clear p134
                        try clear p2
                        try clear p6
                        try clear q1
                        try clear q13
                        try clear q134
                        obtain ⟨kq, x3_18, rfl, HA, HJ18, BK135, HB⟩ := hcut
                        cases kq with
                        | zero => exact absurd HA.out (by simp [plain_Text.j2])
                        | succ kj18 =>
                          have H := HA.out
                          clear HA
                          simp only [plain_Text.j2] at H
                          replace H := Option.bind_eq_some_iff.mp H
                          obtain ⟨t137, A220, H⟩ := H
                          replace H : ((lines_Cut.f t137).bind fun t138 => (plain_Text.l1 kj18 x3_18 l0 (l0.length : Int) x10_1 t138 (t138.length : Int) 0)) = some r := H
                          have A22 := Aside0.mk A220
                          clear A220
                          replace H := Option.bind_eq_some_iff.mp H
                          obtain ⟨t138, A230, H⟩ := H
                          replace H : (plain_Text.l1 kj18 x3_18 l0 (l0.length : Int) x10_1 t138 (t138.length : Int) 0) = some r := H
                          have A23 := Aside0.mk A230
                          clear A230
                          have H' := Aside0.mk H
                          clear H
                          have hcz24_0 : wc.cell? ⟨gb135, 0, none⟩ = some (.string ((rd_T36 l0 x10_1).f0)) := (blk_cell BK135.out 0).trans rfl
                          have hcz24_1 : wc.cell? ⟨gb135, 1, none⟩ = some (.slice A134_1 ((rd_T36 l0 x10_1).f1).length c134_1) := (blk_cell BK135.out 1).trans rfl
                          have hcz24_2 : wc.cell? ⟨gb135, 2, none⟩ = some (.string ((rd_T36 l0 x10_1).f2)) := (blk_cell BK135.out 2).trans rfl
                          have hcz24_3 : wc.cell? ⟨gb135, 3, none⟩ = some (.slice A134_3 ((rd_T36 l0 x10_1).f3).length c134_3) := (blk_cell BK135.out 3).trans rfl
                          have hfz24_0 := blk_frozen BK135.out 0
                          have hfz24_1 := blk_frozen BK135.out 1
                          have hfz24_2 := blk_frozen BK135.out 2
                          have hfz24_3 := blk_frozen BK135.out 3
                          go_wp2_with (first | ((with_reducible refine gate_callee (f := 16) rfl ?_); refine goesL_ (some 44) rfl rfl Try.func16 (by kernel_rfl) rfl #[.slice A134_3 ((rd_T36 l0 x10_1).f3).length c134_3] rfl (by (try simp only [List.map_toArray, List.map_cons, List.map_nil]); first | done | rfl | (simp only [List.length_drop, List.length_take]; rfl)) ?_; (with_reducible refine (ih kj18 (by have := HK1.out; have := HJ13.out; have := HJ18.out; omega) _ _ ((rd_T36 l0 x10_1).f3) t137 _ ?side1 ?side2 A22.out).mono ?_); (case side1 => repeat (first | exact (Kd.C_below HR134_3.out HB.out) | (with_reducible refine Kd.C_alloc ?_ _) | (with_reducible refine Kd.C_drewN ?_ _) | (with_reducible refine Kd.C_drew ?_))); (case side2 => exact HC134_3.out); rintro e w25 ⟨rfl, hb⟩; refine ⟨_, rfl, ?_⟩; have n0_ := Aside0.mk (blk_below (g := gb135) (o := .cells #[.string ((rd_T36 l0 x10_1).f0), .slice A134_1 ((rd_T36 l0 x10_1).f1).length c134_1, .string ((rd_T36 l0 x10_1).f2), .slice A134_3 ((rd_T36 l0 x10_1).f3).length c134_3] 36 (0, 0)) (by (with_reducible repeat (first | refine blk_drewN ?_ _ | refine blk_drew ?_ | refine blk_alloc ?_ _)); exact BK135.out) hb); have n1_ := Aside0.mk (below_step (by repeat (first | (with_reducible first | exact HB.out | apply below_alloc | apply pw_below_drewN | apply below_drew1 | refine below_set ?_ GE135.out) | exact HB.out)) hb); clear BK135; clear HB; have BK135 := n0_; have HB := n1_; clear n0_ n1_; (try clear hb); (try clear hb2); (try clear hk); (try clear hi)) | ((with_reducible refine gate_callee (f := 22) rfl ?_); refine goesL_ (some 45) rfl rfl Try.func22 (by kernel_rfl) rfl #[.string t137] rfl (by (try simp only [List.map_toArray, List.map_cons, List.map_nil]); first | done | rfl | (simp only [List.length_drop, List.length_take]; rfl)) ?_; (with_reducible refine (lines_Cut.calls t137 t138 _ A23.out).mono ?_); rintro e w26 ⟨v139, rfl, ho0, hb⟩; refine ⟨_, rfl, ?_⟩; have n0_ := Aside0.mk (Kd.R_lower ho0 (below_size (by repeat (first | (with_reducible first | exact HB.out | apply below_alloc | apply pw_below_drewN | apply below_drew1 | refine below_set ?_ GE135.out) | exact HB.out)))); have n1_ := Aside0.mk (blk_below (g := gb135) (o := .cells #[.string ((rd_T36 l0 x10_1).f0), .slice A134_1 ((rd_T36 l0 x10_1).f1).length c134_1, .string ((rd_T36 l0 x10_1).f2), .slice A134_3 ((rd_T36 l0 x10_1).f3).length c134_3] 36 (0, 0)) (by (with_reducible repeat (first | refine blk_drewN ?_ _ | refine blk_drew ?_ | refine blk_alloc ?_ _)); exact BK135.out) hb); have n2_ := Aside0.mk (below_step (by repeat (first | (with_reducible first | exact HB.out | apply below_alloc | apply pw_below_drewN | apply below_drew1 | refine below_set ?_ GE135.out) | exact HB.out)) hb); clear BK135; clear HB; have HO140 := n0_; have BK135 := n1_; have HB := n2_; clear n0_ n1_ n2_; (try clear hb); (try clear hb2); (try clear hk); (try clear hi); (try clear ho0); obtain ⟨Ao27, co27, eo27⟩ := Kd.R_slice HO140.out; subst eo27))
                          go_loopg [3, 47] kj18 (fun kq v3 v47 w' => ∃ (x3_4 : ByteArray) (x47_4 : Int), v3 = .string x3_4 ∧ v47 = .int .i64 x47_4 ∧ Aside0 (plain_Text.l1 kq x3_4 l0 (l0.length : Int) x10_1 t138 (t138.length : Int) x47_4 = some r) ∧ Aside0 (kq ≤ kj18) ∧ Aside0 (Kd.R Kd.string 9 w' w.heap.size (fun _ => True) (.slice Ao27 t138.length co27) t138) ∧ Aside0 (w'.heap[gb135]? = some (.cells #[.string ((rd_T36 l0 x10_1).f0), (.slice A134_1 ((rd_T36 l0 x10_1).f1).length c134_1), .string ((rd_T36 l0 x10_1).f2), (.slice A134_3 ((rd_T36 l0 x10_1).f3).length c134_3)] 36 (0, 0))) ∧ Aside0 (Below w.heap.size w w'))
                          case atStart => exact ⟨(x3_18), (0), (by first | rfl | (simp; done) | (simp [*]; done)), (by first | rfl | (simp; done) | (simp [*]; done)), H', ⟨Nat.le_refl _⟩, ⟨by (with_reducible repeat (first | apply Kd.R_alloc | apply Kd.R_drewN | apply Kd.R_drew)); exact HO140.out⟩, ⟨by (with_reducible repeat (first | refine blk_drewN ?_ _ | refine blk_drew ?_ | refine blk_alloc ?_ _)); exact BK135.out⟩, ⟨by repeat (first | (with_reducible first | exact HB.out | apply below_alloc | apply pw_below_drewN | apply below_drew1 | refine below_set ?_ GE135.out) | exact HB.out)⟩⟩
                          case round =>
                            clear H'
                            try clear c1
                            try clear p1
                            try clear q1
                            try clear hx1
                            try clear c2
                            try clear c2b0
                            try clear p2
                            try clear c3
                            try clear c3b0
                            try clear c4
                            try clear c4b0
                            try clear c5
                            try clear c5b0
                            try clear c5b1
                            try clear c6
                            try clear c6b0
                            try clear c6b1
                            try clear c6b2
                            try clear p6
                            try clear c9
                            try clear c9b0
                            try clear c9b1
                            try clear c10
                            try clear c10b0
                            try clear c10b1
                            try clear c10b2
                            try clear c13
                            try clear c13b0
                            try clear c13b1
                            try clear p13
                            try clear q13
                            try clear hx13
                            try clear c16
                            try clear c17
                            try clear c17b0
                            try clear c17b1
                            try clear c20
                            try clear c21
                            try clear c21b0
                            try clear c21b1
                            try clear c21b2
                            try clear c22
                            try clear hcz12_0
                            try clear hcz12_1
                            try clear hcz12_2
                            try clear hcz12_3
                            try clear hcz16_0
                            try clear hcz16_1
                            try clear hcz16_2
                            try clear hcz16_3
                            try clear hcz24_0
                            try clear hcz24_1
                            try clear hcz24_2
                            try clear hcz24_3
                            try clear hcz8_0
                            try clear hcz8_1
                            try clear hcz8_2
                            try clear hcz8_3
                            try clear hfz12_0
                            try clear hfz12_1
                            try clear hfz12_2
                            try clear hfz12_3
                            try clear hfz16_0
                            try clear hfz16_1
                            try clear hfz16_2
                            try clear hfz16_3
                            try clear hfz24_0
                            try clear hfz24_1
                            try clear hfz24_2
                            try clear hfz24_3
                            try clear hfz8_0
                            try clear hfz8_1
                            try clear hfz8_2
                            try clear hfz8_3
                            try clear hx134_0
                            try clear hx134_1
                            try clear hx134_2
                            try clear hx134_3
                            try clear p1
                            try clear p13
                            try clear p134
                            try clear p2
                            try clear p6
                            try clear q1
                            try clear q13
                            try clear q134
                            obtain ⟨x3_4, x47_4, rfl, rfl, HA, HK4, HO_45, BK135, HB⟩ := hrel
                            cases gk with
                            | zero => exact absurd HA.out (by simp [plain_Text.l1])
                            | succ k4 =>
                              have H := HA.out
                              clear HA
                              simp only [plain_Text.l1] at H
                              by_cases c28 : x47_4 < (t138.length : Int)
                              · rw [if_pos c28] at H
                                have c28b0 : decide (x47_4 < (t138.length : Int)) = true := decide_eq_true c28
                                clear c28
                                by_cases c29 : 0 ≤ x47_4
                                · rw [if_pos c29] at H
                                  have c29b0 : decide (0 ≤ x47_4) = true := decide_eq_true c29
                                  clear c29
                                  by_cases c30 : x47_4 < (t138.length : Int)
                                  · rw [if_pos c30] at H
                                    have c30b0 : decide (x47_4 < (t138.length : Int)) = true := decide_eq_true c30
                                    clear c30
                                    by_cases c31 : 2 + (rdOf ByteArray.empty t138 x47_4).size ≤ 9223372036854775807
                                    · rw [if_pos c31] at H
                                      have c31b0 := eq_true c31
                                      have c31b1 : decide (2 + (rdOf ByteArray.empty t138 x47_4).size ≤ 9223372036854775807) = true := decide_eq_true c31
                                      try have c31b2 : (9223372036854775807 < 2 + (rdOf ByteArray.empty t138 x47_4).size) = False := eq_false (Nat.not_lt.2 c31)
                                      by_cases c32 : ((⟨#[62, 32]⟩ : ByteArray) ++ (rdOf ByteArray.empty t138 x47_4)).size + 1 ≤ 9223372036854775807
                                      · rw [if_pos c32] at H
                                        have c32b0 := eq_true c32
                                        have c32b1 : decide (((⟨#[62, 32]⟩ : ByteArray) ++ (rdOf ByteArray.empty t138 x47_4)).size + 1 ≤ 9223372036854775807) = true := decide_eq_true c32
                                        try have c32b2 : (9223372036854775807 < ((⟨#[62, 32]⟩ : ByteArray) ++ (rdOf ByteArray.empty t138 x47_4)).size + 1) = False := eq_false (Nat.not_lt.2 c32)
                                        by_cases c33 : x3_4.size + (((⟨#[62, 32]⟩ : ByteArray) ++ (rdOf ByteArray.empty t138 x47_4)) ++ (⟨#[10]⟩ : ByteArray)).size ≤ 9223372036854775807
                                        · rw [if_pos c33] at H
                                          have c33b0 := eq_true c33
                                          have c33b1 : decide (x3_4.size + (((⟨#[62, 32]⟩ : ByteArray) ++ (rdOf ByteArray.empty t138 x47_4)) ++ (⟨#[10]⟩ : ByteArray)).size ≤ 9223372036854775807) = true := decide_eq_true c33
                                          try have c33b2 : (9223372036854775807 < x3_4.size + (((⟨#[62, 32]⟩ : ByteArray) ++ (rdOf ByteArray.empty t138 x47_4)) ++ (⟨#[10]⟩ : ByteArray)).size) = False := eq_false (Nat.not_lt.2 c33)
                                          have n0 : 2 + (rdOf ByteArray.empty t138 x47_4).size + 1 ≤ 9223372036854775807 := by have h_ := c32; simp only [ByteArray.size_append] at h_; exact h_
                                          have n0b := eq_true n0
                                          have n0c : (9223372036854775807 < 2 + (rdOf ByteArray.empty t138 x47_4).size + 1) = False := eq_false (Nat.not_lt.2 n0)
                                          have n1 : x3_4.size + (2 + (rdOf ByteArray.empty t138 x47_4).size + 1) ≤ 9223372036854775807 := by have h_ := c33; simp only [ByteArray.size_append] at h_; exact h_
                                          have n1b := eq_true n1
                                          have n1c : (9223372036854775807 < x3_4.size + (2 + (rdOf ByteArray.empty t138 x47_4).size + 1)) = False := eq_false (Nat.not_lt.2 n1)
                                          have H' := Aside0.mk H
                                          clear H
                                          have p141 : 0 ≤ (x47_4 : Int) := of_decide_eq_true (by first | (with_reducible assumption) | assumption)
                                          have q141 : x47_4 < (t138.length : Int) := of_decide_eq_true (by first | (with_reducible assumption) | assumption)
                                          obtain ⟨ad141, e141, hx141_0⟩ := Kd.at_string (Kd.R_reads' HO_45.out).2.2 x47_4 p141 q141
                                          cases e141
                                          replace p141 := eq_true p141
                                          replace q141 := eq_true q141
                                          go_wp2
                                          go_roundg k4
                                          case measure => have := HK1.out; have := HJ13.out; have := HJ18.out; have := HK4.out; omega
                                          case rel => exact ⟨(x3_4 ++ (((⟨#[62, 32]⟩ : ByteArray) ++ (rdOf ByteArray.empty t138 x47_4)) ++ (⟨#[10]⟩ : ByteArray))), (wrap64 (x47_4 + 1)), (by first | rfl | (simp; done) | (simp [*]; done)), (by first | rfl | (simp; done) | (simp [*]; done)), H', ⟨by have := HK1.out; have := HJ13.out; have := HJ18.out; have := HK4.out; omega⟩, ⟨by (with_reducible repeat (first | apply Kd.R_alloc | apply Kd.R_drewN | apply Kd.R_drew)); exact HO_45.out⟩, ⟨by (with_reducible repeat (first | refine blk_drewN ?_ _ | refine blk_drew ?_ | refine blk_alloc ?_ _)); exact BK135.out⟩, ⟨by repeat (first | (with_reducible first | exact HB.out | apply below_alloc | apply pw_below_drewN | apply below_drew1 | refine below_set ?_ GE135.out) | exact HB.out)⟩⟩
                                        · rw [if_neg c33] at H
                                          exact absurd H (by simp)
                                      · rw [if_neg c32] at H
                                        exact absurd H (by simp)
                                    · rw [if_neg c31] at H
                                      exact absurd H (by simp)
                                  · rw [if_neg c30] at H
                                    exact absurd H (by simp)
                                · rw [if_neg c29] at H
                                  exact absurd H (by simp)
                              · rw [if_neg c28] at H
                                have c28b0 : decide (x47_4 < (t138.length : Int)) = false := decide_eq_false c28
                                clear c28
                                have H' := Aside0.mk H
                                clear H
                                go_wp2
                                go_roundg k4
                                case measure => have := HK1.out; have := HJ13.out; have := HJ18.out; have := HK4.out; omega
                                case rel => exact ⟨(x3_4), (wrap64 (x10_1 + 1)), (by first | rfl | (simp; done) | (simp [*]; done)), (by first | rfl | (simp; done) | (simp [*]; done)), H', ⟨by have := HK1.out; have := HJ13.out; have := HJ18.out; have := HK4.out; omega⟩, ⟨by repeat (first | (with_reducible first | exact HB.out | apply below_alloc | apply pw_below_drewN | apply below_drew1 | refine below_set ?_ GE135.out) | exact HB.out)⟩⟩
                · rw [if_neg c13] at H
                  have c13b0 : (((rd_T36 l0 x10_1).f0).toList == ([98, 108, 111, 99, 107, 113, 117, 111, 116, 101] : List UInt8)) = false := beq_eq_false_iff_ne.mpr c13
                  have c13b1 : (((rd_T36 l0 x10_1).f0).toList != ([98, 108, 111, 99, 107, 113, 117, 111, 116, 101] : List UInt8)) = true := bne_iff_ne.mpr c13
                  replace H := Option.bind_eq_some_iff.mp H
                  obtain ⟨t142, A340, H⟩ := H
                  replace H : (if x3_1.size + t142.size ≤ 9223372036854775807 then (plain_Text.l0 k1 (x3_1 ++ t142) l0 (l0.length : Int) (wrap64 (x10_1 + 1))) else (none)) = some r := H
                  have A34 := Aside0.mk A340
                  clear A340
                  by_cases c35 : x3_1.size + t142.size ≤ 9223372036854775807
                  · rw [if_pos c35] at H
                    have c35b0 := eq_true c35
                    have c35b1 : decide (x3_1.size + t142.size ≤ 9223372036854775807) = true := decide_eq_true c35
                    try have c35b2 : (9223372036854775807 < x3_1.size + t142.size) = False := eq_false (Nat.not_lt.2 c35)
                    have H' := Aside0.mk H
                    clear H
                    have p134 : 0 ≤ (x10_1 : Int) := of_decide_eq_true (by first | (with_reducible assumption) | assumption)
                    have q134 : x10_1 < (l0.length : Int) := of_decide_eq_true (by first | (with_reducible assumption) | assumption)
                    obtain ⟨ad134, A134_1, c134_1, A134_3, c134_3, e134, hx134_0, hx134_1, hx134_2, hx134_3, hl134_1, hi134_1, hl134_3, hi134_3⟩ := at_T36 HR0.out x10_1 p134 q134
                    cases e134
                    replace hx134_0 := (HB.out.cell (World.block_lt_of_cell? w _ hx134_0)).trans hx134_0
                    replace hx134_1 := (HB.out.cell (World.block_lt_of_cell? w _ hx134_1)).trans hx134_1
                    replace hx134_2 := (HB.out.cell (World.block_lt_of_cell? w _ hx134_2)).trans hx134_2
                    replace hx134_3 := (HB.out.cell (World.block_lt_of_cell? w _ hx134_3)).trans hx134_3
                    have HR134_1 := Aside0.mk hi134_1
                    have HC134_1 := Aside0.mk hl134_1
                    clear hi134_1 hl134_1
                    have HR134_3 := Aside0.mk hi134_3
                    have HC134_3 := Aside0.mk hl134_3
                    clear hi134_3 hl134_3
                    replace p134 := eq_true p134
                    replace q134 := eq_true q134
                    go_wp2_with (first | ((with_reducible refine gate_dst (N := 5) rfl ?_); refine box_event ?hg (N := 5) ?hd (cs := #[.string (⟨#[]⟩ : ByteArray), .slice none 0 0, .string (⟨#[]⟩ : ByteArray), .slice none 0 0]) (t := 36) ?hr ?_; (case hd => rfl); (case hg => rfl); (case hr => first | (go_simp; done) | (go_simp; rfl)); intro gb135 hg w36 hbox hb; have n0_ := Aside0.mk (below_step (by repeat (first | (with_reducible first | exact HB.out | apply below_alloc | apply pw_below_drewN | apply below_drew1) | exact HB.out)) hb); have n1_ := Aside0.mk (hbox); have n2_ := Aside0.mk ((by rw [hg]; exact (below_size (by repeat (first | (with_reducible first | exact HB.out | apply below_alloc | apply pw_below_drewN | apply below_drew1) | exact HB.out))) : w.heap.size ≤ gb135)); have n3_ := Aside0.mk ((by rw [hg]; exact (below_size (by repeat (first | (with_reducible first | exact HB.out | apply below_alloc | apply pw_below_drewN | apply below_drew1) | exact HB.out))) : w.heap.size ≤ gb135)); clear HB; have HB := n0_; have BK135 := n1_; have GW135 := n2_; have GE135 := n3_; clear n0_ n1_ n2_ n3_; clear hb hbox hg; have hcz37_0 : w36.cell? ⟨gb135, 0, none⟩ = some (.string (⟨#[]⟩ : ByteArray)) := (blk_cell BK135.out 0).trans rfl; have hcz37_1 : w36.cell? ⟨gb135, 1, none⟩ = some (.slice none 0 0) := (blk_cell BK135.out 1).trans rfl; have hcz37_2 : w36.cell? ⟨gb135, 2, none⟩ = some (.string (⟨#[]⟩ : ByteArray)) := (blk_cell BK135.out 2).trans rfl; have hcz37_3 : w36.cell? ⟨gb135, 3, none⟩ = some (.slice none 0 0) := (blk_cell BK135.out 3).trans rfl; have hfz37_0 := blk_frozen BK135.out 0; have hfz37_1 := blk_frozen BK135.out 1; have hfz37_2 := blk_frozen BK135.out 2; have hfz37_3 := blk_frozen BK135.out 3) | ((with_reducible refine gate_callee (f := 16) rfl ?_); refine goesL_ (some 19) rfl rfl Try.func16 (by kernel_rfl) rfl #[.slice A134_3 ((rd_T36 l0 x10_1).f3).length c134_3] rfl (by (try simp only [List.map_toArray, List.map_cons, List.map_nil]); first | done | rfl | (simp only [List.length_drop, List.length_take]; rfl)) ?_; (with_reducible refine (ih k1 (by have := HK1.out; omega) _ _ ((rd_T36 l0 x10_1).f3) t142 _ ?side1 ?side2 A34.out).mono ?_); (case side1 => exact Kd.C_below HR134_3.out (by repeat (first | (with_reducible first | exact HB.out | apply below_alloc | apply pw_below_drewN | apply below_drew1 | refine below_set ?_ GE135.out) | exact HB.out))); (case side2 => exact HC134_3.out); rintro e w38 ⟨rfl, hb⟩; refine ⟨_, rfl, ?_⟩; have n0_ := Aside0.mk (blk_below (g := gb135) (o := .cells #[.string ((rd_T36 l0 x10_1).f0), .slice A134_1 ((rd_T36 l0 x10_1).f1).length c134_1, .string ((rd_T36 l0 x10_1).f2), .slice A134_3 ((rd_T36 l0 x10_1).f3).length c134_3] 36 (0, 0)) (by (with_reducible repeat (first | refine blk_drewN ?_ _ | refine blk_drew ?_ | refine blk_alloc ?_ _)); refine blk_put (cs := #[.string ((rd_T36 l0 x10_1).f0), .slice A134_1 ((rd_T36 l0 x10_1).f1).length c134_1, .string ((rd_T36 l0 x10_1).f2), .slice none 0 0]) ?_ 3 _ rfl; (with_reducible repeat (first | refine blk_drewN ?_ _ | refine blk_drew ?_ | refine blk_alloc ?_ _)); refine blk_put (cs := #[.string ((rd_T36 l0 x10_1).f0), .slice A134_1 ((rd_T36 l0 x10_1).f1).length c134_1, .string (⟨#[]⟩ : ByteArray), .slice none 0 0]) ?_ 2 _ rfl; (with_reducible repeat (first | refine blk_drewN ?_ _ | refine blk_drew ?_ | refine blk_alloc ?_ _)); refine blk_put (cs := #[.string ((rd_T36 l0 x10_1).f0), .slice none 0 0, .string (⟨#[]⟩ : ByteArray), .slice none 0 0]) ?_ 1 _ rfl; (with_reducible repeat (first | refine blk_drewN ?_ _ | refine blk_drew ?_ | refine blk_alloc ?_ _)); refine blk_put (cs := #[.string (⟨#[]⟩ : ByteArray), .slice none 0 0, .string (⟨#[]⟩ : ByteArray), .slice none 0 0]) ?_ 0 _ rfl; (with_reducible repeat (first | refine blk_drewN ?_ _ | refine blk_drew ?_ | refine blk_alloc ?_ _)); exact BK135.out) hb); have n1_ := Aside0.mk (below_step (by repeat (first | (with_reducible first | exact HB.out | apply below_alloc | apply pw_below_drewN | apply below_drew1 | refine below_set ?_ GE135.out) | exact HB.out)) hb); clear BK135; clear HB; have BK135 := n0_; have HB := n1_; clear n0_ n1_; (try clear hb); (try clear hb2); (try clear hk); (try clear hi)))
                    go_roundg k1
                    case measure => have := HK1.out; omega
                    case rel => exact ⟨(x3_1 ++ t142), (wrap64 (x10_1 + 1)), (by first | rfl | (simp; done) | (simp [*]; done)), (by first | rfl | (simp; done) | (simp [*]; done)), H', ⟨by have := HK1.out; omega⟩, ⟨by repeat (first | (with_reducible first | exact HB.out | apply below_alloc | apply pw_below_drewN | apply below_drew1 | refine below_set ?_ GE135.out) | exact HB.out)⟩⟩
                  · rw [if_neg c35] at H
                    exact absurd H (by simp)
          · rw [if_neg c4] at H
            exact absurd H (by simp)
        · rw [if_neg c3] at H
          exact absurd H (by simp)
      · rw [if_neg c2] at H
        have c2b0 : decide (x10_1 < (l0.length : Int)) = false := decide_eq_false c2
        clear c2
        obtain rfl := Option.some.inj H
        go_wp2
        go_ret
        exact ⟨by first | rfl | (simp [errW_none, errW_some] <;> rfl) | (simp [*, errW_none, errW_some] <;> rfl), by repeat (first | (with_reducible first | exact HB.out | apply below_alloc | apply pw_below_drewN | apply below_drew1) | exact HB.out)⟩

/-! ### muslinlaw20_live: function 9 -/
def muslinlaw20_live.f (k : Nat)  : Option (Bool) := (plain_Tree.f k (⟨#[97, 10, 10, 62, 32, 98, 10, 62, 62, 32, 99, 10, 100, 13, 10, 101]⟩ : ByteArray)).bind fun t143 => ((plain_Level.f k (⟨#[62, 32, 62, 32, 32, 120]⟩ : ByteArray)).bind fun bt146 => ((muslinref14_Same.f k t143 (([(⟨(⟨#[]⟩ : ByteArray), ([] : List (S51)), (⟨#[97]⟩ : ByteArray), ([] : List (S36))⟩ : S36), (⟨(⟨#[98, 114]⟩ : ByteArray), ([] : List (S51)), (⟨#[]⟩ : ByteArray), ([] : List (S36))⟩ : S36), (⟨(⟨#[98, 108, 111, 99, 107, 113, 117, 111, 116, 101]⟩ : ByteArray), ([] : List (S51)), (⟨#[]⟩ : ByteArray), (([(⟨(⟨#[]⟩ : ByteArray), ([] : List (S51)), (⟨#[98]⟩ : ByteArray), ([] : List (S36))⟩ : S36), (⟨(⟨#[98, 108, 111, 99, 107, 113, 117, 111, 116, 101]⟩ : ByteArray), ([] : List (S51)), (⟨#[]⟩ : ByteArray), (([(⟨(⟨#[]⟩ : ByteArray), ([] : List (S51)), (⟨#[99]⟩ : ByteArray), ([] : List (S36))⟩ : S36)] : List (S36)))⟩ : S36)] : List (S36)))⟩ : S36), (⟨(⟨#[]⟩ : ByteArray), ([] : List (S51)), (⟨#[100]⟩ : ByteArray), ([] : List (S36))⟩ : S36), (⟨(⟨#[98, 114]⟩ : ByteArray), ([] : List (S51)), (⟨#[]⟩ : ByteArray), ([] : List (S36))⟩ : S36), (⟨(⟨#[]⟩ : ByteArray), ([] : List (S51)), (⟨#[101]⟩ : ByteArray), ([] : List (S36))⟩ : S36)] : List (S36)))).bind fun t157 => (if t157 = true then (if bt146.1 = 2 then (if bt146.2.toList = ([32, 120] : List UInt8) then ((plain_Text.f k t143).bind fun t158 => (some (t158.toList == ([97, 10, 62, 32, 98, 10, 62, 32, 62, 32, 99, 10, 100, 10, 101] : List UInt8)))) else (some false)) else (some false)) else (some false))))
theorem muslinlaw20_live.mono : ∀ k, LeO (muslinlaw20_live.f k ) (muslinlaw20_live.f (k + 1) ) := by
  intro  k
  unfold muslinlaw20_live.f
  repeat' first
      | (with_reducible exact muslinref14_Same.mono _ _ _)
      | (with_reducible exact plain_Level.mono _ _)
      | (with_reducible exact plain_Text.mono _ _)
      | (with_reducible exact plain_Tree.mono _ _)
      | (with_reducible exact LeO.refl _)
      | (with_reducible exact LeO.none _)
      | (with_reducible refine LeO.ite ?_ ?_)
      | (with_reducible refine LeO.bind ?_ (fun _ => ?_))
      | exact muslinref14_Same.mono _ _ _
      | exact plain_Level.mono _ _
      | exact plain_Text.mono _ _
      | exact plain_Tree.mono _ _
      | exact LeO.none _
      | refine LeO.ite ?_ ?_
      | refine LeO.bind ?_ (fun _ => ?_)
set_option maxHeartbeats 8000000 in
set_option maxRecDepth 100000 in
theorem muslinlaw20_live.calls (k : Nat)  (r : Bool) (w : World) (h : muslinlaw20_live.f k  = some r) :
    Calls Try.prog 9 #[] w fun e w' => e = .returned (.bool r) ∧ Below w.heap.size w w' := by
  have hu36 := Try.underlying36
  have HB := Aside0.mk (Below.refl w.heap.size w)
  have H : ((plain_Tree.f k (⟨#[97, 10, 10, 62, 32, 98, 10, 62, 62, 32, 99, 10, 100, 13, 10, 101]⟩ : ByteArray)).bind fun t143 => ((plain_Level.f k (⟨#[62, 32, 62, 32, 32, 120]⟩ : ByteArray)).bind fun bt146 => ((muslinref14_Same.f k t143 (([(⟨(⟨#[]⟩ : ByteArray), ([] : List (S51)), (⟨#[97]⟩ : ByteArray), ([] : List (S36))⟩ : S36), (⟨(⟨#[98, 114]⟩ : ByteArray), ([] : List (S51)), (⟨#[]⟩ : ByteArray), ([] : List (S36))⟩ : S36), (⟨(⟨#[98, 108, 111, 99, 107, 113, 117, 111, 116, 101]⟩ : ByteArray), ([] : List (S51)), (⟨#[]⟩ : ByteArray), (([(⟨(⟨#[]⟩ : ByteArray), ([] : List (S51)), (⟨#[98]⟩ : ByteArray), ([] : List (S36))⟩ : S36), (⟨(⟨#[98, 108, 111, 99, 107, 113, 117, 111, 116, 101]⟩ : ByteArray), ([] : List (S51)), (⟨#[]⟩ : ByteArray), (([(⟨(⟨#[]⟩ : ByteArray), ([] : List (S51)), (⟨#[99]⟩ : ByteArray), ([] : List (S36))⟩ : S36)] : List (S36)))⟩ : S36)] : List (S36)))⟩ : S36), (⟨(⟨#[]⟩ : ByteArray), ([] : List (S51)), (⟨#[100]⟩ : ByteArray), ([] : List (S36))⟩ : S36), (⟨(⟨#[98, 114]⟩ : ByteArray), ([] : List (S51)), (⟨#[]⟩ : ByteArray), ([] : List (S36))⟩ : S36), (⟨(⟨#[]⟩ : ByteArray), ([] : List (S51)), (⟨#[101]⟩ : ByteArray), ([] : List (S36))⟩ : S36)] : List (S36)))).bind fun t157 => (if t157 = true then (if bt146.1 = 2 then (if bt146.2.toList = ([32, 120] : List UInt8) then ((plain_Text.f k t143).bind fun t158 => (some (t158.toList == ([97, 10, 62, 32, 98, 10, 62, 32, 62, 32, 99, 10, 100, 10, 101] : List UInt8)))) else (some false)) else (some false)) else (some false))))) = some r := h
  clear h
  replace H := Option.bind_eq_some_iff.mp H
  obtain ⟨t143, A10, H⟩ := H
  replace H : ((plain_Level.f k (⟨#[62, 32, 62, 32, 32, 120]⟩ : ByteArray)).bind fun bt146 => ((muslinref14_Same.f k t143 (([(⟨(⟨#[]⟩ : ByteArray), ([] : List (S51)), (⟨#[97]⟩ : ByteArray), ([] : List (S36))⟩ : S36), (⟨(⟨#[98, 114]⟩ : ByteArray), ([] : List (S51)), (⟨#[]⟩ : ByteArray), ([] : List (S36))⟩ : S36), (⟨(⟨#[98, 108, 111, 99, 107, 113, 117, 111, 116, 101]⟩ : ByteArray), ([] : List (S51)), (⟨#[]⟩ : ByteArray), (([(⟨(⟨#[]⟩ : ByteArray), ([] : List (S51)), (⟨#[98]⟩ : ByteArray), ([] : List (S36))⟩ : S36), (⟨(⟨#[98, 108, 111, 99, 107, 113, 117, 111, 116, 101]⟩ : ByteArray), ([] : List (S51)), (⟨#[]⟩ : ByteArray), (([(⟨(⟨#[]⟩ : ByteArray), ([] : List (S51)), (⟨#[99]⟩ : ByteArray), ([] : List (S36))⟩ : S36)] : List (S36)))⟩ : S36)] : List (S36)))⟩ : S36), (⟨(⟨#[]⟩ : ByteArray), ([] : List (S51)), (⟨#[100]⟩ : ByteArray), ([] : List (S36))⟩ : S36), (⟨(⟨#[98, 114]⟩ : ByteArray), ([] : List (S51)), (⟨#[]⟩ : ByteArray), ([] : List (S36))⟩ : S36), (⟨(⟨#[]⟩ : ByteArray), ([] : List (S51)), (⟨#[101]⟩ : ByteArray), ([] : List (S36))⟩ : S36)] : List (S36)))).bind fun t157 => (if t157 = true then (if bt146.1 = 2 then (if bt146.2.toList = ([32, 120] : List UInt8) then ((plain_Text.f k t143).bind fun t158 => (some (t158.toList == ([97, 10, 62, 32, 98, 10, 62, 32, 62, 32, 99, 10, 100, 10, 101] : List UInt8)))) else (some false)) else (some false)) else (some false)))) = some r := H
  have A1 := Aside0.mk A10
  clear A10
  replace H := Option.bind_eq_some_iff.mp H
  obtain ⟨⟨t146, t147⟩, A20, H⟩ := H
  replace H : ((muslinref14_Same.f k t143 (([(⟨(⟨#[]⟩ : ByteArray), ([] : List (S51)), (⟨#[97]⟩ : ByteArray), ([] : List (S36))⟩ : S36), (⟨(⟨#[98, 114]⟩ : ByteArray), ([] : List (S51)), (⟨#[]⟩ : ByteArray), ([] : List (S36))⟩ : S36), (⟨(⟨#[98, 108, 111, 99, 107, 113, 117, 111, 116, 101]⟩ : ByteArray), ([] : List (S51)), (⟨#[]⟩ : ByteArray), (([(⟨(⟨#[]⟩ : ByteArray), ([] : List (S51)), (⟨#[98]⟩ : ByteArray), ([] : List (S36))⟩ : S36), (⟨(⟨#[98, 108, 111, 99, 107, 113, 117, 111, 116, 101]⟩ : ByteArray), ([] : List (S51)), (⟨#[]⟩ : ByteArray), (([(⟨(⟨#[]⟩ : ByteArray), ([] : List (S51)), (⟨#[99]⟩ : ByteArray), ([] : List (S36))⟩ : S36)] : List (S36)))⟩ : S36)] : List (S36)))⟩ : S36), (⟨(⟨#[]⟩ : ByteArray), ([] : List (S51)), (⟨#[100]⟩ : ByteArray), ([] : List (S36))⟩ : S36), (⟨(⟨#[98, 114]⟩ : ByteArray), ([] : List (S51)), (⟨#[]⟩ : ByteArray), ([] : List (S36))⟩ : S36), (⟨(⟨#[]⟩ : ByteArray), ([] : List (S51)), (⟨#[101]⟩ : ByteArray), ([] : List (S36))⟩ : S36)] : List (S36)))).bind fun t157 => (if t157 = true then (if t146 = 2 then (if t147.toList = ([32, 120] : List UInt8) then ((plain_Text.f k t143).bind fun t158 => (some (t158.toList == ([97, 10, 62, 32, 98, 10, 62, 32, 62, 32, 99, 10, 100, 10, 101] : List UInt8)))) else (some false)) else (some false)) else (some false))) = some r := H
  have A2 := Aside0.mk A20
  clear A20
  obtain ⟨y148, hy148⟩ : ∃ y_ : List (S36), y_ = (([(⟨(⟨#[]⟩ : ByteArray), ([] : List (S51)), (⟨#[99]⟩ : ByteArray), ([] : List (S36))⟩ : S36)] : List (S36))) := ⟨_, rfl⟩
  replace H : ((muslinref14_Same.f k t143 (([(⟨(⟨#[]⟩ : ByteArray), ([] : List (S51)), (⟨#[97]⟩ : ByteArray), ([] : List (S36))⟩ : S36), (⟨(⟨#[98, 114]⟩ : ByteArray), ([] : List (S51)), (⟨#[]⟩ : ByteArray), ([] : List (S36))⟩ : S36), (⟨(⟨#[98, 108, 111, 99, 107, 113, 117, 111, 116, 101]⟩ : ByteArray), ([] : List (S51)), (⟨#[]⟩ : ByteArray), (([(⟨(⟨#[]⟩ : ByteArray), ([] : List (S51)), (⟨#[98]⟩ : ByteArray), ([] : List (S36))⟩ : S36), (⟨(⟨#[98, 108, 111, 99, 107, 113, 117, 111, 116, 101]⟩ : ByteArray), ([] : List (S51)), (⟨#[]⟩ : ByteArray), y148⟩ : S36)] : List (S36)))⟩ : S36), (⟨(⟨#[]⟩ : ByteArray), ([] : List (S51)), (⟨#[100]⟩ : ByteArray), ([] : List (S36))⟩ : S36), (⟨(⟨#[98, 114]⟩ : ByteArray), ([] : List (S51)), (⟨#[]⟩ : ByteArray), ([] : List (S36))⟩ : S36), (⟨(⟨#[]⟩ : ByteArray), ([] : List (S51)), (⟨#[101]⟩ : ByteArray), ([] : List (S36))⟩ : S36)] : List (S36)))).bind fun t157 => (if t157 = true then (if t146 = 2 then (if t147.toList = ([32, 120] : List UInt8) then ((plain_Text.f k t143).bind fun t158 => (some (t158.toList == ([97, 10, 62, 32, 98, 10, 62, 32, 62, 32, 99, 10, 100, 10, 101] : List UInt8)))) else (some false)) else (some false)) else (some false))) = some r := by first | (rw [hy148]; with_reducible exact H) | (have H2_ := (Option.bind_some _ _).symm.trans H; rw [hy148]; with_reducible exact H2_) | (have H2_ := (Option.bind_some _ _).symm.trans H; with_reducible exact H2_) | with_reducible exact H | (rw [hy148]; exact H) | exact H
  have Ny148 := Aside0.mk hy148
  clear hy148
  obtain ⟨y151, hy151⟩ : ∃ y_ : List (S36), y_ = (([(⟨(⟨#[]⟩ : ByteArray), ([] : List (S51)), (⟨#[98]⟩ : ByteArray), ([] : List (S36))⟩ : S36), (⟨(⟨#[98, 108, 111, 99, 107, 113, 117, 111, 116, 101]⟩ : ByteArray), ([] : List (S51)), (⟨#[]⟩ : ByteArray), y148⟩ : S36)] : List (S36))) := ⟨_, rfl⟩
  replace H : ((muslinref14_Same.f k t143 (([(⟨(⟨#[]⟩ : ByteArray), ([] : List (S51)), (⟨#[97]⟩ : ByteArray), ([] : List (S36))⟩ : S36), (⟨(⟨#[98, 114]⟩ : ByteArray), ([] : List (S51)), (⟨#[]⟩ : ByteArray), ([] : List (S36))⟩ : S36), (⟨(⟨#[98, 108, 111, 99, 107, 113, 117, 111, 116, 101]⟩ : ByteArray), ([] : List (S51)), (⟨#[]⟩ : ByteArray), y151⟩ : S36), (⟨(⟨#[]⟩ : ByteArray), ([] : List (S51)), (⟨#[100]⟩ : ByteArray), ([] : List (S36))⟩ : S36), (⟨(⟨#[98, 114]⟩ : ByteArray), ([] : List (S51)), (⟨#[]⟩ : ByteArray), ([] : List (S36))⟩ : S36), (⟨(⟨#[]⟩ : ByteArray), ([] : List (S51)), (⟨#[101]⟩ : ByteArray), ([] : List (S36))⟩ : S36)] : List (S36)))).bind fun t157 => (if t157 = true then (if t146 = 2 then (if t147.toList = ([32, 120] : List UInt8) then ((plain_Text.f k t143).bind fun t158 => (some (t158.toList == ([97, 10, 62, 32, 98, 10, 62, 32, 62, 32, 99, 10, 100, 10, 101] : List UInt8)))) else (some false)) else (some false)) else (some false))) = some r := by first | (rw [hy151]; with_reducible exact H) | (have H2_ := (Option.bind_some _ _).symm.trans H; rw [hy151]; with_reducible exact H2_) | (have H2_ := (Option.bind_some _ _).symm.trans H; with_reducible exact H2_) | with_reducible exact H | (rw [hy151]; exact H) | exact H
  have Ny151 := Aside0.mk hy151
  clear hy151
  obtain ⟨y154, hy154⟩ : ∃ y_ : List (S36), y_ = (([(⟨(⟨#[]⟩ : ByteArray), ([] : List (S51)), (⟨#[97]⟩ : ByteArray), ([] : List (S36))⟩ : S36), (⟨(⟨#[98, 114]⟩ : ByteArray), ([] : List (S51)), (⟨#[]⟩ : ByteArray), ([] : List (S36))⟩ : S36), (⟨(⟨#[98, 108, 111, 99, 107, 113, 117, 111, 116, 101]⟩ : ByteArray), ([] : List (S51)), (⟨#[]⟩ : ByteArray), y151⟩ : S36), (⟨(⟨#[]⟩ : ByteArray), ([] : List (S51)), (⟨#[100]⟩ : ByteArray), ([] : List (S36))⟩ : S36), (⟨(⟨#[98, 114]⟩ : ByteArray), ([] : List (S51)), (⟨#[]⟩ : ByteArray), ([] : List (S36))⟩ : S36), (⟨(⟨#[]⟩ : ByteArray), ([] : List (S51)), (⟨#[101]⟩ : ByteArray), ([] : List (S36))⟩ : S36)] : List (S36))) := ⟨_, rfl⟩
  replace H : ((muslinref14_Same.f k t143 y154).bind fun t157 => (if t157 = true then (if t146 = 2 then (if t147.toList = ([32, 120] : List UInt8) then ((plain_Text.f k t143).bind fun t158 => (some (t158.toList == ([97, 10, 62, 32, 98, 10, 62, 32, 62, 32, 99, 10, 100, 10, 101] : List UInt8)))) else (some false)) else (some false)) else (some false))) = some r := by first | (rw [hy154]; with_reducible exact H) | (have H2_ := (Option.bind_some _ _).symm.trans H; rw [hy154]; with_reducible exact H2_) | (have H2_ := (Option.bind_some _ _).symm.trans H; with_reducible exact H2_) | with_reducible exact H | (rw [hy154]; exact H) | exact H
  have Ny154 := Aside0.mk hy154
  clear hy154
  replace H := Option.bind_eq_some_iff.mp H
  obtain ⟨t157, A30, H⟩ := H
  replace H : (if t157 = true then (if t146 = 2 then (if t147.toList = ([32, 120] : List UInt8) then ((plain_Text.f k t143).bind fun t158 => (some (t158.toList == ([97, 10, 62, 32, 98, 10, 62, 32, 62, 32, 99, 10, 100, 10, 101] : List UInt8)))) else (some false)) else (some false)) else (some false)) = some r := H
  have A3 := Aside0.mk A30
  clear A30
  by_cases c4 : t157 = true
  · subst c4
    have H1 : (if t146 = 2 then (if t147.toList = ([32, 120] : List UInt8) then ((plain_Text.f k t143).bind fun t158 => (some (t158.toList == ([97, 10, 62, 32, 98, 10, 62, 32, 62, 32, 99, 10, 100, 10, 101] : List UInt8)))) else (some false)) else (some false)) = some r := by rw [if_pos rfl] at H; exact H
    clear H
    have H := H1
    clear H1
    by_cases c5 : t146 = 2
    · rw [if_pos c5] at H
      have c5b0 : (t146 == 2) = true := beq_iff_eq.mpr c5
      have c5b1 : (t146 != 2) = false := bne_eq_false_iff_eq.mpr c5
      clear c5
      by_cases c6 : t147.toList = ([32, 120] : List UInt8)
      · rw [if_pos c6] at H
        have c6b0 : (t147.toList == ([32, 120] : List UInt8)) = true := beq_iff_eq.mpr c6
        have c6b1 : (t147.toList != ([32, 120] : List UInt8)) = false := bne_eq_false_iff_eq.mpr c6
        clear c6
        replace H := Option.bind_eq_some_iff.mp H
        obtain ⟨t158, A70, H⟩ := H
        replace H : (some (t158.toList == ([97, 10, 62, 32, 98, 10, 62, 32, 62, 32, 99, 10, 100, 10, 101] : List UInt8))) = some r := H
        have A7 := Aside0.mk A70
        clear A70
        obtain rfl := Option.some.inj H
        go_enter Try.func9, Try.ntmps9
        go_wp2_with (first | ((with_reducible refine gate_callee (f := 13) rfl ?_); refine goesL_ (some 5) rfl rfl Try.func13 (by kernel_rfl) rfl #[.string (⟨#[97, 10, 10, 62, 32, 98, 10, 62, 62, 32, 99, 10, 100, 13, 10, 101]⟩ : ByteArray)] rfl (by (try simp only [List.map_toArray, List.map_cons, List.map_nil]); first | done | rfl | (simp only [List.length_drop, List.length_take]; rfl)) ?_; (with_reducible refine (plain_Tree.calls k (⟨#[97, 10, 10, 62, 32, 98, 10, 62, 62, 32, 99, 10, 100, 13, 10, 101]⟩ : ByteArray) t143 _ A1.out).mono ?_); rintro e w8 ⟨v144, rfl, ho0, hb⟩; refine ⟨_, rfl, ?_⟩; have n0_ := Aside0.mk (Kd.N_lower (Kd.N_mono (ok' := fun k_ => True) (Kd.R_N (Kd.R_bound ho0)) (fun k_ hk_ => trivial)) (below_size (by repeat (first | (with_reducible first | exact HB.out | apply below_alloc | apply pw_below_drewN | apply below_drew1) | exact HB.out)))); have n1_ := Aside0.mk (below_step (by repeat (first | (with_reducible first | exact HB.out | apply below_alloc | apply pw_below_drewN | apply below_drew1) | exact HB.out)) hb); clear HB; have HO145 := n0_; have HB := n1_; clear n0_ n1_; (try clear hb); (try clear hb2); (try clear hk); (try clear hi); (try clear ho0)) | ((with_reducible refine gate_callee (f := 10) rfl ?_); refine goesL_ (some 7) rfl rfl Try.func10 (by kernel_rfl) rfl #[.string (⟨#[62, 32, 62, 32, 32, 120]⟩ : ByteArray)] rfl (by (try simp only [List.map_toArray, List.map_cons, List.map_nil]); first | done | rfl | (simp only [List.length_drop, List.length_take]; rfl)) ?_; (with_reducible refine (plain_Level.calls k (⟨#[62, 32, 62, 32, 32, 120]⟩ : ByteArray) t146 t147 _ A2.out).mono ?_); rintro e w' ⟨rfl, ⟨nd, rfl⟩⟩; refine ⟨_, rfl, ?_⟩) | ((with_reducible refine gate_dst (N := 14) rfl ?_); refine Kd.N_lit k36 _ 36 ?hg (N' := 14) ?hd (xs := ([(⟨(⟨#[]⟩ : ByteArray), ([] : List (S51)), (⟨#[99]⟩ : ByteArray), ([] : List (S36))⟩ : S36)] : List (S36))) (inner := [.string (⟨#[]⟩ : ByteArray), .slice none 0 0, .string (⟨#[99]⟩ : ByteArray), .slice none 0 0]) (ok := (fun k_ => some k_ ≠ (v144 : Value).ownBlock)) (okp := (fun k_ => some k_ ≠ (v144 : Value).ownBlock)) ?hr ?hp (fun _ hk => hk) ((show ∀ k_, w8.heap.size ≤ k_ → (fun k_ => some k_ ≠ (v144 : Value).ownBlock) k_ from fun k_ hk => Kd.fresh' (Kd.N_lt (by (with_reducible repeat (first | apply Kd.N_alloc | apply Kd.N_drewN | apply Kd.N_drew)); exact HO145.out)) k_ hk) _ (Nat.le_refl _)) (Below.refl _ _) (Nat.le_refl _) (by simp) ?_; (case hd => rfl); (case hg => rfl); (case hr => first | (go_simp; done) | (go_simp; rfl)); (case hp => exact (Reps.c4 (show Kd.FK k36 _ _ (⟨(⟨#[]⟩ : ByteArray), ([] : List (S51)), (⟨#[99]⟩ : ByteArray), ([] : List (S36))⟩ : S36) [.string (⟨#[]⟩ : ByteArray), .slice none 0 0, .string (⟨#[99]⟩ : ByteArray), .slice none 0 0] from (k36_mkF _ _ (⟨(⟨#[]⟩ : ByteArray), ([] : List (S51)), (⟨#[99]⟩ : ByteArray), ([] : List (S36))⟩ : S36) (Nat.le_refl _) (Kd.F_nil _ _ _) (Nat.le_refl _) (Kd.F_nil _ _ _))) (Reps.none _ _))); intro v149 w9 ho10 hb hg_ hnew_; clear hg_ hnew_; (first | rw [← Ny148.out] at ho10 | (simp only [Int.reduceToNat] at ho10; rw [← Ny148.out] at ho10)); have n0_ := Aside0.mk (Kd.N_elder' (by (with_reducible repeat (first | apply Kd.N_alloc | apply Kd.N_drewN | apply Kd.N_drew)); exact HO145.out) (Kd.N_base ho10) hb); have n1_ := Aside0.mk (Kd.N_lower ho10 (below_size (by repeat (first | (with_reducible first | exact HB.out | apply below_alloc | apply pw_below_drewN | apply below_drew1) | exact HB.out)))); have n2_ := Aside0.mk (below_step (by repeat (first | (with_reducible first | exact HB.out | apply below_alloc | apply pw_below_drewN | apply below_drew1) | exact HB.out)) hb); clear HO145; clear HB; have HO145 := n0_; have HO150 := n1_; have HB := n2_; clear n0_ n1_ n2_; clear hb ho10; obtain ⟨Ao11, co11, eo11⟩ := Kd.N_slice HO150.out; subst eo11) | ((with_reducible refine gate_dst (N := 16) rfl ?_); refine Kd.N_lit k36 _ 36 ?hg (N' := 16) ?hd (xs := ([(⟨(⟨#[]⟩ : ByteArray), ([] : List (S51)), (⟨#[98]⟩ : ByteArray), ([] : List (S36))⟩ : S36), (⟨(⟨#[98, 108, 111, 99, 107, 113, 117, 111, 116, 101]⟩ : ByteArray), ([] : List (S51)), (⟨#[]⟩ : ByteArray), y148⟩ : S36)] : List (S36))) (inner := [.string (⟨#[]⟩ : ByteArray), .slice none 0 0, .string (⟨#[98]⟩ : ByteArray), .slice none 0 0, .string (⟨#[98, 108, 111, 99, 107, 113, 117, 111, 116, 101]⟩ : ByteArray), .slice none 0 0, .string (⟨#[]⟩ : ByteArray), .slice Ao11 y148.length co11]) (ok := (fun k_ => some k_ ≠ (v144 : Value).ownBlock)) (okp := (fun k_ => some k_ ≠ (v144 : Value).ownBlock)) ?hr ?hp (fun _ hk => hk) ((show ∀ k_, w9.heap.size ≤ k_ → (fun k_ => some k_ ≠ (v144 : Value).ownBlock) k_ from fun k_ hk => Kd.fresh' (Kd.N_lt (by (with_reducible repeat (first | apply Kd.N_alloc | apply Kd.N_drewN | apply Kd.N_drew)); exact HO145.out)) k_ hk) _ (Nat.le_refl _)) (Below.refl _ _) (Nat.le_refl _) (by simp) ?_; (case hd => rfl); (case hg => rfl); (case hr => first | (go_simp; done) | (go_simp; rfl)); (case hp => exact (Reps.c4 (show Kd.FK k36 _ _ (⟨(⟨#[]⟩ : ByteArray), ([] : List (S51)), (⟨#[98]⟩ : ByteArray), ([] : List (S36))⟩ : S36) [.string (⟨#[]⟩ : ByteArray), .slice none 0 0, .string (⟨#[98]⟩ : ByteArray), .slice none 0 0] from (k36_mkF _ _ (⟨(⟨#[]⟩ : ByteArray), ([] : List (S51)), (⟨#[98]⟩ : ByteArray), ([] : List (S36))⟩ : S36) (Nat.le_refl _) (Kd.F_nil _ _ _) (Nat.le_refl _) (Kd.F_nil _ _ _))) (Reps.c4 (show Kd.FK k36 _ _ (⟨(⟨#[98, 108, 111, 99, 107, 113, 117, 111, 116, 101]⟩ : ByteArray), ([] : List (S51)), (⟨#[]⟩ : ByteArray), y148⟩ : S36) [.string (⟨#[98, 108, 111, 99, 107, 113, 117, 111, 116, 101]⟩ : ByteArray), .slice none 0 0, .string (⟨#[]⟩ : ByteArray), .slice Ao11 y148.length co11] from (k36_mkF _ _ (⟨(⟨#[98, 108, 111, 99, 107, 113, 117, 111, 116, 101]⟩ : ByteArray), ([] : List (S51)), (⟨#[]⟩ : ByteArray), y148⟩ : S36) (Nat.le_refl _) (Kd.F_nil _ _ _) (Kd.N_reads' (Kd.N_mono (ok' := (fun k_ => some k_ ≠ (v144 : Value).ownBlock)) (HO150.out) (fun k_ hk => hk))).2.1 (Kd.N_F (Kd.N_mono (ok' := (fun k_ => some k_ ≠ (v144 : Value).ownBlock)) (HO150.out) (fun k_ hk => hk))))) (Reps.none _ _)))); intro v152 w12 ho13 hb hg_ hnew_; clear hg_ hnew_; (first | rw [← Ny151.out] at ho13 | (simp only [Int.reduceToNat] at ho13; rw [← Ny151.out] at ho13)); have n0_ := Aside0.mk (Kd.N_elder' (by (with_reducible repeat (first | apply Kd.N_alloc | apply Kd.N_drewN | apply Kd.N_drew)); exact HO145.out) (Kd.N_base ho13) hb); have n1_ := Aside0.mk (Kd.N_lower ho13 (below_size (by repeat (first | (with_reducible first | exact HB.out | apply below_alloc | apply pw_below_drewN | apply below_drew1) | exact HB.out)))); have n2_ := Aside0.mk (below_step (by repeat (first | (with_reducible first | exact HB.out | apply below_alloc | apply pw_below_drewN | apply below_drew1) | exact HB.out)) hb); clear HO145; clear HB; clear HO150; have HO145 := n0_; have HO153 := n1_; have HB := n2_; clear n0_ n1_ n2_; clear hb ho13; obtain ⟨Ao14, co14, eo14⟩ := Kd.N_slice HO153.out; subst eo14) | ((with_reducible refine gate_dst (N := 21) rfl ?_); refine Kd.N_lit k36 _ 36 ?hg (N' := 21) ?hd (xs := ([(⟨(⟨#[]⟩ : ByteArray), ([] : List (S51)), (⟨#[97]⟩ : ByteArray), ([] : List (S36))⟩ : S36), (⟨(⟨#[98, 114]⟩ : ByteArray), ([] : List (S51)), (⟨#[]⟩ : ByteArray), ([] : List (S36))⟩ : S36), (⟨(⟨#[98, 108, 111, 99, 107, 113, 117, 111, 116, 101]⟩ : ByteArray), ([] : List (S51)), (⟨#[]⟩ : ByteArray), y151⟩ : S36), (⟨(⟨#[]⟩ : ByteArray), ([] : List (S51)), (⟨#[100]⟩ : ByteArray), ([] : List (S36))⟩ : S36), (⟨(⟨#[98, 114]⟩ : ByteArray), ([] : List (S51)), (⟨#[]⟩ : ByteArray), ([] : List (S36))⟩ : S36), (⟨(⟨#[]⟩ : ByteArray), ([] : List (S51)), (⟨#[101]⟩ : ByteArray), ([] : List (S36))⟩ : S36)] : List (S36))) (inner := [.string (⟨#[]⟩ : ByteArray), .slice none 0 0, .string (⟨#[97]⟩ : ByteArray), .slice none 0 0, .string (⟨#[98, 114]⟩ : ByteArray), .slice none 0 0, .string (⟨#[]⟩ : ByteArray), .slice none 0 0, .string (⟨#[98, 108, 111, 99, 107, 113, 117, 111, 116, 101]⟩ : ByteArray), .slice none 0 0, .string (⟨#[]⟩ : ByteArray), .slice Ao14 y151.length co14, .string (⟨#[]⟩ : ByteArray), .slice none 0 0, .string (⟨#[100]⟩ : ByteArray), .slice none 0 0, .string (⟨#[98, 114]⟩ : ByteArray), .slice none 0 0, .string (⟨#[]⟩ : ByteArray), .slice none 0 0, .string (⟨#[]⟩ : ByteArray), .slice none 0 0, .string (⟨#[101]⟩ : ByteArray), .slice none 0 0]) (ok := (fun k_ => some k_ ≠ (v144 : Value).ownBlock)) (okp := (fun k_ => some k_ ≠ (v144 : Value).ownBlock)) ?hr ?hp (fun _ hk => hk) ((show ∀ k_, w12.heap.size ≤ k_ → (fun k_ => some k_ ≠ (v144 : Value).ownBlock) k_ from fun k_ hk => Kd.fresh' (Kd.N_lt (by (with_reducible repeat (first | apply Kd.N_alloc | apply Kd.N_drewN | apply Kd.N_drew)); exact HO145.out)) k_ hk) _ (Nat.le_refl _)) (Below.refl _ _) (Nat.le_refl _) (by simp) ?_; (case hd => rfl); (case hg => rfl); (case hr => first | (go_simp; done) | (go_simp; rfl)); (case hp => exact (Reps.c4 (show Kd.FK k36 _ _ (⟨(⟨#[]⟩ : ByteArray), ([] : List (S51)), (⟨#[97]⟩ : ByteArray), ([] : List (S36))⟩ : S36) [.string (⟨#[]⟩ : ByteArray), .slice none 0 0, .string (⟨#[97]⟩ : ByteArray), .slice none 0 0] from (k36_mkF _ _ (⟨(⟨#[]⟩ : ByteArray), ([] : List (S51)), (⟨#[97]⟩ : ByteArray), ([] : List (S36))⟩ : S36) (Nat.le_refl _) (Kd.F_nil _ _ _) (Nat.le_refl _) (Kd.F_nil _ _ _))) (Reps.c4 (show Kd.FK k36 _ _ (⟨(⟨#[98, 114]⟩ : ByteArray), ([] : List (S51)), (⟨#[]⟩ : ByteArray), ([] : List (S36))⟩ : S36) [.string (⟨#[98, 114]⟩ : ByteArray), .slice none 0 0, .string (⟨#[]⟩ : ByteArray), .slice none 0 0] from (k36_mkF _ _ (⟨(⟨#[98, 114]⟩ : ByteArray), ([] : List (S51)), (⟨#[]⟩ : ByteArray), ([] : List (S36))⟩ : S36) (Nat.le_refl _) (Kd.F_nil _ _ _) (Nat.le_refl _) (Kd.F_nil _ _ _))) (Reps.c4 (show Kd.FK k36 _ _ (⟨(⟨#[98, 108, 111, 99, 107, 113, 117, 111, 116, 101]⟩ : ByteArray), ([] : List (S51)), (⟨#[]⟩ : ByteArray), y151⟩ : S36) [.string (⟨#[98, 108, 111, 99, 107, 113, 117, 111, 116, 101]⟩ : ByteArray), .slice none 0 0, .string (⟨#[]⟩ : ByteArray), .slice Ao14 y151.length co14] from (k36_mkF _ _ (⟨(⟨#[98, 108, 111, 99, 107, 113, 117, 111, 116, 101]⟩ : ByteArray), ([] : List (S51)), (⟨#[]⟩ : ByteArray), y151⟩ : S36) (Nat.le_refl _) (Kd.F_nil _ _ _) (Kd.N_reads' (Kd.N_mono (ok' := (fun k_ => some k_ ≠ (v144 : Value).ownBlock)) (HO153.out) (fun k_ hk => hk))).2.1 (Kd.N_F (Kd.N_mono (ok' := (fun k_ => some k_ ≠ (v144 : Value).ownBlock)) (HO153.out) (fun k_ hk => hk))))) (Reps.c4 (show Kd.FK k36 _ _ (⟨(⟨#[]⟩ : ByteArray), ([] : List (S51)), (⟨#[100]⟩ : ByteArray), ([] : List (S36))⟩ : S36) [.string (⟨#[]⟩ : ByteArray), .slice none 0 0, .string (⟨#[100]⟩ : ByteArray), .slice none 0 0] from (k36_mkF _ _ (⟨(⟨#[]⟩ : ByteArray), ([] : List (S51)), (⟨#[100]⟩ : ByteArray), ([] : List (S36))⟩ : S36) (Nat.le_refl _) (Kd.F_nil _ _ _) (Nat.le_refl _) (Kd.F_nil _ _ _))) (Reps.c4 (show Kd.FK k36 _ _ (⟨(⟨#[98, 114]⟩ : ByteArray), ([] : List (S51)), (⟨#[]⟩ : ByteArray), ([] : List (S36))⟩ : S36) [.string (⟨#[98, 114]⟩ : ByteArray), .slice none 0 0, .string (⟨#[]⟩ : ByteArray), .slice none 0 0] from (k36_mkF _ _ (⟨(⟨#[98, 114]⟩ : ByteArray), ([] : List (S51)), (⟨#[]⟩ : ByteArray), ([] : List (S36))⟩ : S36) (Nat.le_refl _) (Kd.F_nil _ _ _) (Nat.le_refl _) (Kd.F_nil _ _ _))) (Reps.c4 (show Kd.FK k36 _ _ (⟨(⟨#[]⟩ : ByteArray), ([] : List (S51)), (⟨#[101]⟩ : ByteArray), ([] : List (S36))⟩ : S36) [.string (⟨#[]⟩ : ByteArray), .slice none 0 0, .string (⟨#[101]⟩ : ByteArray), .slice none 0 0] from (k36_mkF _ _ (⟨(⟨#[]⟩ : ByteArray), ([] : List (S51)), (⟨#[101]⟩ : ByteArray), ([] : List (S36))⟩ : S36) (Nat.le_refl _) (Kd.F_nil _ _ _) (Nat.le_refl _) (Kd.F_nil _ _ _))) (Reps.none _ _)))))))); intro v155 w15 ho16 hb hg_ hnew_; clear hg_ hnew_; (first | rw [← Ny154.out] at ho16 | (simp only [Int.reduceToNat] at ho16; rw [← Ny154.out] at ho16)); have n0_ := Aside0.mk (Kd.N_elder' (by (with_reducible repeat (first | apply Kd.N_alloc | apply Kd.N_drewN | apply Kd.N_drew)); exact HO145.out) (Kd.N_base ho16) hb); have n1_ := Aside0.mk (Kd.N_lower ho16 (below_size (by repeat (first | (with_reducible first | exact HB.out | apply below_alloc | apply pw_below_drewN | apply below_drew1) | exact HB.out)))); have n2_ := Aside0.mk (below_step (by repeat (first | (with_reducible first | exact HB.out | apply below_alloc | apply pw_below_drewN | apply below_drew1) | exact HB.out)) hb); clear HO145; clear HB; clear HO153; have HO145 := n0_; have HO156 := n1_; have HB := n2_; clear n0_ n1_ n2_; clear hb ho16; obtain ⟨Ao17, co17, eo17⟩ := Kd.N_slice HO145.out; subst eo17; obtain ⟨Ao18, co18, eo18⟩ := Kd.N_slice HO156.out; subst eo18) | ((with_reducible refine gate_callee (f := 12) rfl ?_); refine goesL_ (some 24) rfl rfl Try.func12 (by kernel_rfl) rfl #[.slice Ao17 t143.length co17, .slice Ao18 y154.length co18] rfl (by (try simp only [List.map_toArray, List.map_cons, List.map_nil]); first | done | rfl | (simp only [List.length_drop, List.length_take]; rfl)) ?_; (with_reducible refine (muslinref14_Same.calls k _ _ t143 _ _ y154 true _ ?side1 ?side2 ?side3 ?side4 A3.out).mono ?_); (case side1 => repeat (first | exact (Kd.N_reads' HO145.out).2.2 | (with_reducible refine Kd.C_alloc ?_ _) | (with_reducible refine Kd.C_drewN ?_ _) | (with_reducible refine Kd.C_drew ?_))); (case side2 => exact (Kd.N_reads' HO145.out).2.1); (case side3 => repeat (first | exact (Kd.N_reads' HO156.out).2.2 | (with_reducible refine Kd.C_alloc ?_ _) | (with_reducible refine Kd.C_drewN ?_ _) | (with_reducible refine Kd.C_drew ?_))); (case side4 => exact (Kd.N_reads' HO156.out).2.1); rintro e w19 ⟨rfl, hb⟩; refine ⟨_, rfl, ?_⟩; have n0_ := Aside0.mk (Kd.N_below (by (with_reducible repeat (first | apply Kd.N_alloc | apply Kd.N_drewN | apply Kd.N_drew)); exact HO145.out) hb); have n1_ := Aside0.mk (Kd.N_below (by (with_reducible repeat (first | apply Kd.N_alloc | apply Kd.N_drewN | apply Kd.N_drew)); exact HO156.out) hb); have n2_ := Aside0.mk (below_step (by repeat (first | (with_reducible first | exact HB.out | apply below_alloc | apply pw_below_drewN | apply below_drew1) | exact HB.out)) hb); clear HO145; clear HO156; clear HB; have HO145 := n0_; have HO156 := n1_; have HB := n2_; clear n0_ n1_ n2_; (try clear hb); (try clear hb2); (try clear hk); (try clear hi)) | (go_at_call 16; (with_reducible refine (plain_Text.calls k _ _ t143 t158 _ ?side1 ?side2 A7.out).mono ?_); (case side1 => repeat (first | exact (Kd.N_reads' HO145.out).2.2 | (with_reducible refine Kd.C_alloc ?_ _) | (with_reducible refine Kd.C_drewN ?_ _) | (with_reducible refine Kd.C_drew ?_))); (case side2 => exact (Kd.N_reads' HO145.out).2.1); rintro e w20 ⟨rfl, hb⟩; have n0_ := Aside0.mk (Kd.N_below (by (with_reducible repeat (first | apply Kd.N_alloc | apply Kd.N_drewN | apply Kd.N_drew)); exact HO145.out) hb); have n1_ := Aside0.mk (Kd.N_below (by (with_reducible repeat (first | apply Kd.N_alloc | apply Kd.N_drewN | apply Kd.N_drew)); exact HO156.out) hb); have n2_ := Aside0.mk (below_step (by repeat (first | (with_reducible first | exact HB.out | apply below_alloc | apply pw_below_drewN | apply below_drew1) | exact HB.out)) hb); clear HO145; clear HO156; clear HB; have HO145 := n0_; have HO156 := n1_; have HB := n2_; clear n0_ n1_ n2_; (try clear hb); (try clear hb2); (try clear hk); (try clear hi)))
        go_ret
        exact ⟨by first | rfl | (simp [errW_none, errW_some] <;> rfl) | (simp [*, errW_none, errW_some] <;> rfl), by repeat (first | (with_reducible first | exact HB.out | apply below_alloc | apply pw_below_drewN | apply below_drew1) | exact HB.out)⟩
      · rw [if_neg c6] at H
        have c6b0 : (t147.toList == ([32, 120] : List UInt8)) = false := beq_eq_false_iff_ne.mpr c6
        have c6b1 : (t147.toList != ([32, 120] : List UInt8)) = true := bne_iff_ne.mpr c6
        obtain rfl := Option.some.inj H
        go_enter Try.func9, Try.ntmps9
        go_wp2_with (first | ((with_reducible refine gate_callee (f := 13) rfl ?_); refine goesL_ (some 5) rfl rfl Try.func13 (by kernel_rfl) rfl #[.string (⟨#[97, 10, 10, 62, 32, 98, 10, 62, 62, 32, 99, 10, 100, 13, 10, 101]⟩ : ByteArray)] rfl (by (try simp only [List.map_toArray, List.map_cons, List.map_nil]); first | done | rfl | (simp only [List.length_drop, List.length_take]; rfl)) ?_; (with_reducible refine (plain_Tree.calls k (⟨#[97, 10, 10, 62, 32, 98, 10, 62, 62, 32, 99, 10, 100, 13, 10, 101]⟩ : ByteArray) t143 _ A1.out).mono ?_); rintro e w21 ⟨v144, rfl, ho0, hb⟩; refine ⟨_, rfl, ?_⟩; have n0_ := Aside0.mk (Kd.N_lower (Kd.N_mono (ok' := fun k_ => True) (Kd.R_N (Kd.R_bound ho0)) (fun k_ hk_ => trivial)) (below_size (by repeat (first | (with_reducible first | exact HB.out | apply below_alloc | apply pw_below_drewN | apply below_drew1) | exact HB.out)))); have n1_ := Aside0.mk (below_step (by repeat (first | (with_reducible first | exact HB.out | apply below_alloc | apply pw_below_drewN | apply below_drew1) | exact HB.out)) hb); clear HB; have HO145 := n0_; have HB := n1_; clear n0_ n1_; (try clear hb); (try clear hb2); (try clear hk); (try clear hi); (try clear ho0)) | ((with_reducible refine gate_callee (f := 10) rfl ?_); refine goesL_ (some 7) rfl rfl Try.func10 (by kernel_rfl) rfl #[.string (⟨#[62, 32, 62, 32, 32, 120]⟩ : ByteArray)] rfl (by (try simp only [List.map_toArray, List.map_cons, List.map_nil]); first | done | rfl | (simp only [List.length_drop, List.length_take]; rfl)) ?_; (with_reducible refine (plain_Level.calls k (⟨#[62, 32, 62, 32, 32, 120]⟩ : ByteArray) t146 t147 _ A2.out).mono ?_); rintro e w' ⟨rfl, ⟨nd, rfl⟩⟩; refine ⟨_, rfl, ?_⟩) | ((with_reducible refine gate_dst (N := 14) rfl ?_); refine Kd.N_lit k36 _ 36 ?hg (N' := 14) ?hd (xs := ([(⟨(⟨#[]⟩ : ByteArray), ([] : List (S51)), (⟨#[99]⟩ : ByteArray), ([] : List (S36))⟩ : S36)] : List (S36))) (inner := [.string (⟨#[]⟩ : ByteArray), .slice none 0 0, .string (⟨#[99]⟩ : ByteArray), .slice none 0 0]) (ok := (fun k_ => some k_ ≠ (v144 : Value).ownBlock)) (okp := (fun k_ => some k_ ≠ (v144 : Value).ownBlock)) ?hr ?hp (fun _ hk => hk) ((show ∀ k_, w21.heap.size ≤ k_ → (fun k_ => some k_ ≠ (v144 : Value).ownBlock) k_ from fun k_ hk => Kd.fresh' (Kd.N_lt (by (with_reducible repeat (first | apply Kd.N_alloc | apply Kd.N_drewN | apply Kd.N_drew)); exact HO145.out)) k_ hk) _ (Nat.le_refl _)) (Below.refl _ _) (Nat.le_refl _) (by simp) ?_; (case hd => rfl); (case hg => rfl); (case hr => first | (go_simp; done) | (go_simp; rfl)); (case hp => exact (Reps.c4 (show Kd.FK k36 _ _ (⟨(⟨#[]⟩ : ByteArray), ([] : List (S51)), (⟨#[99]⟩ : ByteArray), ([] : List (S36))⟩ : S36) [.string (⟨#[]⟩ : ByteArray), .slice none 0 0, .string (⟨#[99]⟩ : ByteArray), .slice none 0 0] from (k36_mkF _ _ (⟨(⟨#[]⟩ : ByteArray), ([] : List (S51)), (⟨#[99]⟩ : ByteArray), ([] : List (S36))⟩ : S36) (Nat.le_refl _) (Kd.F_nil _ _ _) (Nat.le_refl _) (Kd.F_nil _ _ _))) (Reps.none _ _))); intro v149 w22 ho23 hb hg_ hnew_; clear hg_ hnew_; (first | rw [← Ny148.out] at ho23 | (simp only [Int.reduceToNat] at ho23; rw [← Ny148.out] at ho23)); have n0_ := Aside0.mk (Kd.N_elder' (by (with_reducible repeat (first | apply Kd.N_alloc | apply Kd.N_drewN | apply Kd.N_drew)); exact HO145.out) (Kd.N_base ho23) hb); have n1_ := Aside0.mk (Kd.N_lower ho23 (below_size (by repeat (first | (with_reducible first | exact HB.out | apply below_alloc | apply pw_below_drewN | apply below_drew1) | exact HB.out)))); have n2_ := Aside0.mk (below_step (by repeat (first | (with_reducible first | exact HB.out | apply below_alloc | apply pw_below_drewN | apply below_drew1) | exact HB.out)) hb); clear HO145; clear HB; have HO145 := n0_; have HO150 := n1_; have HB := n2_; clear n0_ n1_ n2_; clear hb ho23; obtain ⟨Ao24, co24, eo24⟩ := Kd.N_slice HO150.out; subst eo24) | ((with_reducible refine gate_dst (N := 16) rfl ?_); refine Kd.N_lit k36 _ 36 ?hg (N' := 16) ?hd (xs := ([(⟨(⟨#[]⟩ : ByteArray), ([] : List (S51)), (⟨#[98]⟩ : ByteArray), ([] : List (S36))⟩ : S36), (⟨(⟨#[98, 108, 111, 99, 107, 113, 117, 111, 116, 101]⟩ : ByteArray), ([] : List (S51)), (⟨#[]⟩ : ByteArray), y148⟩ : S36)] : List (S36))) (inner := [.string (⟨#[]⟩ : ByteArray), .slice none 0 0, .string (⟨#[98]⟩ : ByteArray), .slice none 0 0, .string (⟨#[98, 108, 111, 99, 107, 113, 117, 111, 116, 101]⟩ : ByteArray), .slice none 0 0, .string (⟨#[]⟩ : ByteArray), .slice Ao24 y148.length co24]) (ok := (fun k_ => some k_ ≠ (v144 : Value).ownBlock)) (okp := (fun k_ => some k_ ≠ (v144 : Value).ownBlock)) ?hr ?hp (fun _ hk => hk) ((show ∀ k_, w22.heap.size ≤ k_ → (fun k_ => some k_ ≠ (v144 : Value).ownBlock) k_ from fun k_ hk => Kd.fresh' (Kd.N_lt (by (with_reducible repeat (first | apply Kd.N_alloc | apply Kd.N_drewN | apply Kd.N_drew)); exact HO145.out)) k_ hk) _ (Nat.le_refl _)) (Below.refl _ _) (Nat.le_refl _) (by simp) ?_; (case hd => rfl); (case hg => rfl); (case hr => first | (go_simp; done) | (go_simp; rfl)); (case hp => exact (Reps.c4 (show Kd.FK k36 _ _ (⟨(⟨#[]⟩ : ByteArray), ([] : List (S51)), (⟨#[98]⟩ : ByteArray), ([] : List (S36))⟩ : S36) [.string (⟨#[]⟩ : ByteArray), .slice none 0 0, .string (⟨#[98]⟩ : ByteArray), .slice none 0 0] from (k36_mkF _ _ (⟨(⟨#[]⟩ : ByteArray), ([] : List (S51)), (⟨#[98]⟩ : ByteArray), ([] : List (S36))⟩ : S36) (Nat.le_refl _) (Kd.F_nil _ _ _) (Nat.le_refl _) (Kd.F_nil _ _ _))) (Reps.c4 (show Kd.FK k36 _ _ (⟨(⟨#[98, 108, 111, 99, 107, 113, 117, 111, 116, 101]⟩ : ByteArray), ([] : List (S51)), (⟨#[]⟩ : ByteArray), y148⟩ : S36) [.string (⟨#[98, 108, 111, 99, 107, 113, 117, 111, 116, 101]⟩ : ByteArray), .slice none 0 0, .string (⟨#[]⟩ : ByteArray), .slice Ao24 y148.length co24] from (k36_mkF _ _ (⟨(⟨#[98, 108, 111, 99, 107, 113, 117, 111, 116, 101]⟩ : ByteArray), ([] : List (S51)), (⟨#[]⟩ : ByteArray), y148⟩ : S36) (Nat.le_refl _) (Kd.F_nil _ _ _) (Kd.N_reads' (Kd.N_mono (ok' := (fun k_ => some k_ ≠ (v144 : Value).ownBlock)) (HO150.out) (fun k_ hk => hk))).2.1 (Kd.N_F (Kd.N_mono (ok' := (fun k_ => some k_ ≠ (v144 : Value).ownBlock)) (HO150.out) (fun k_ hk => hk))))) (Reps.none _ _)))); intro v152 w25 ho26 hb hg_ hnew_; clear hg_ hnew_; (first | rw [← Ny151.out] at ho26 | (simp only [Int.reduceToNat] at ho26; rw [← Ny151.out] at ho26)); have n0_ := Aside0.mk (Kd.N_elder' (by (with_reducible repeat (first | apply Kd.N_alloc | apply Kd.N_drewN | apply Kd.N_drew)); exact HO145.out) (Kd.N_base ho26) hb); have n1_ := Aside0.mk (Kd.N_lower ho26 (below_size (by repeat (first | (with_reducible first | exact HB.out | apply below_alloc | apply pw_below_drewN | apply below_drew1) | exact HB.out)))); have n2_ := Aside0.mk (below_step (by repeat (first | (with_reducible first | exact HB.out | apply below_alloc | apply pw_below_drewN | apply below_drew1) | exact HB.out)) hb); clear HO145; clear HB; clear HO150; have HO145 := n0_; have HO153 := n1_; have HB := n2_; clear n0_ n1_ n2_; clear hb ho26; obtain ⟨Ao27, co27, eo27⟩ := Kd.N_slice HO153.out; subst eo27) | ((with_reducible refine gate_dst (N := 21) rfl ?_); refine Kd.N_lit k36 _ 36 ?hg (N' := 21) ?hd (xs := ([(⟨(⟨#[]⟩ : ByteArray), ([] : List (S51)), (⟨#[97]⟩ : ByteArray), ([] : List (S36))⟩ : S36), (⟨(⟨#[98, 114]⟩ : ByteArray), ([] : List (S51)), (⟨#[]⟩ : ByteArray), ([] : List (S36))⟩ : S36), (⟨(⟨#[98, 108, 111, 99, 107, 113, 117, 111, 116, 101]⟩ : ByteArray), ([] : List (S51)), (⟨#[]⟩ : ByteArray), y151⟩ : S36), (⟨(⟨#[]⟩ : ByteArray), ([] : List (S51)), (⟨#[100]⟩ : ByteArray), ([] : List (S36))⟩ : S36), (⟨(⟨#[98, 114]⟩ : ByteArray), ([] : List (S51)), (⟨#[]⟩ : ByteArray), ([] : List (S36))⟩ : S36), (⟨(⟨#[]⟩ : ByteArray), ([] : List (S51)), (⟨#[101]⟩ : ByteArray), ([] : List (S36))⟩ : S36)] : List (S36))) (inner := [.string (⟨#[]⟩ : ByteArray), .slice none 0 0, .string (⟨#[97]⟩ : ByteArray), .slice none 0 0, .string (⟨#[98, 114]⟩ : ByteArray), .slice none 0 0, .string (⟨#[]⟩ : ByteArray), .slice none 0 0, .string (⟨#[98, 108, 111, 99, 107, 113, 117, 111, 116, 101]⟩ : ByteArray), .slice none 0 0, .string (⟨#[]⟩ : ByteArray), .slice Ao27 y151.length co27, .string (⟨#[]⟩ : ByteArray), .slice none 0 0, .string (⟨#[100]⟩ : ByteArray), .slice none 0 0, .string (⟨#[98, 114]⟩ : ByteArray), .slice none 0 0, .string (⟨#[]⟩ : ByteArray), .slice none 0 0, .string (⟨#[]⟩ : ByteArray), .slice none 0 0, .string (⟨#[101]⟩ : ByteArray), .slice none 0 0]) (ok := (fun k_ => some k_ ≠ (v144 : Value).ownBlock)) (okp := (fun k_ => some k_ ≠ (v144 : Value).ownBlock)) ?hr ?hp (fun _ hk => hk) ((show ∀ k_, w25.heap.size ≤ k_ → (fun k_ => some k_ ≠ (v144 : Value).ownBlock) k_ from fun k_ hk => Kd.fresh' (Kd.N_lt (by (with_reducible repeat (first | apply Kd.N_alloc | apply Kd.N_drewN | apply Kd.N_drew)); exact HO145.out)) k_ hk) _ (Nat.le_refl _)) (Below.refl _ _) (Nat.le_refl _) (by simp) ?_; (case hd => rfl); (case hg => rfl); (case hr => first | (go_simp; done) | (go_simp; rfl)); (case hp => exact (Reps.c4 (show Kd.FK k36 _ _ (⟨(⟨#[]⟩ : ByteArray), ([] : List (S51)), (⟨#[97]⟩ : ByteArray), ([] : List (S36))⟩ : S36) [.string (⟨#[]⟩ : ByteArray), .slice none 0 0, .string (⟨#[97]⟩ : ByteArray), .slice none 0 0] from (k36_mkF _ _ (⟨(⟨#[]⟩ : ByteArray), ([] : List (S51)), (⟨#[97]⟩ : ByteArray), ([] : List (S36))⟩ : S36) (Nat.le_refl _) (Kd.F_nil _ _ _) (Nat.le_refl _) (Kd.F_nil _ _ _))) (Reps.c4 (show Kd.FK k36 _ _ (⟨(⟨#[98, 114]⟩ : ByteArray), ([] : List (S51)), (⟨#[]⟩ : ByteArray), ([] : List (S36))⟩ : S36) [.string (⟨#[98, 114]⟩ : ByteArray), .slice none 0 0, .string (⟨#[]⟩ : ByteArray), .slice none 0 0] from (k36_mkF _ _ (⟨(⟨#[98, 114]⟩ : ByteArray), ([] : List (S51)), (⟨#[]⟩ : ByteArray), ([] : List (S36))⟩ : S36) (Nat.le_refl _) (Kd.F_nil _ _ _) (Nat.le_refl _) (Kd.F_nil _ _ _))) (Reps.c4 (show Kd.FK k36 _ _ (⟨(⟨#[98, 108, 111, 99, 107, 113, 117, 111, 116, 101]⟩ : ByteArray), ([] : List (S51)), (⟨#[]⟩ : ByteArray), y151⟩ : S36) [.string (⟨#[98, 108, 111, 99, 107, 113, 117, 111, 116, 101]⟩ : ByteArray), .slice none 0 0, .string (⟨#[]⟩ : ByteArray), .slice Ao27 y151.length co27] from (k36_mkF _ _ (⟨(⟨#[98, 108, 111, 99, 107, 113, 117, 111, 116, 101]⟩ : ByteArray), ([] : List (S51)), (⟨#[]⟩ : ByteArray), y151⟩ : S36) (Nat.le_refl _) (Kd.F_nil _ _ _) (Kd.N_reads' (Kd.N_mono (ok' := (fun k_ => some k_ ≠ (v144 : Value).ownBlock)) (HO153.out) (fun k_ hk => hk))).2.1 (Kd.N_F (Kd.N_mono (ok' := (fun k_ => some k_ ≠ (v144 : Value).ownBlock)) (HO153.out) (fun k_ hk => hk))))) (Reps.c4 (show Kd.FK k36 _ _ (⟨(⟨#[]⟩ : ByteArray), ([] : List (S51)), (⟨#[100]⟩ : ByteArray), ([] : List (S36))⟩ : S36) [.string (⟨#[]⟩ : ByteArray), .slice none 0 0, .string (⟨#[100]⟩ : ByteArray), .slice none 0 0] from (k36_mkF _ _ (⟨(⟨#[]⟩ : ByteArray), ([] : List (S51)), (⟨#[100]⟩ : ByteArray), ([] : List (S36))⟩ : S36) (Nat.le_refl _) (Kd.F_nil _ _ _) (Nat.le_refl _) (Kd.F_nil _ _ _))) (Reps.c4 (show Kd.FK k36 _ _ (⟨(⟨#[98, 114]⟩ : ByteArray), ([] : List (S51)), (⟨#[]⟩ : ByteArray), ([] : List (S36))⟩ : S36) [.string (⟨#[98, 114]⟩ : ByteArray), .slice none 0 0, .string (⟨#[]⟩ : ByteArray), .slice none 0 0] from (k36_mkF _ _ (⟨(⟨#[98, 114]⟩ : ByteArray), ([] : List (S51)), (⟨#[]⟩ : ByteArray), ([] : List (S36))⟩ : S36) (Nat.le_refl _) (Kd.F_nil _ _ _) (Nat.le_refl _) (Kd.F_nil _ _ _))) (Reps.c4 (show Kd.FK k36 _ _ (⟨(⟨#[]⟩ : ByteArray), ([] : List (S51)), (⟨#[101]⟩ : ByteArray), ([] : List (S36))⟩ : S36) [.string (⟨#[]⟩ : ByteArray), .slice none 0 0, .string (⟨#[101]⟩ : ByteArray), .slice none 0 0] from (k36_mkF _ _ (⟨(⟨#[]⟩ : ByteArray), ([] : List (S51)), (⟨#[101]⟩ : ByteArray), ([] : List (S36))⟩ : S36) (Nat.le_refl _) (Kd.F_nil _ _ _) (Nat.le_refl _) (Kd.F_nil _ _ _))) (Reps.none _ _)))))))); intro v155 w28 ho29 hb hg_ hnew_; clear hg_ hnew_; (first | rw [← Ny154.out] at ho29 | (simp only [Int.reduceToNat] at ho29; rw [← Ny154.out] at ho29)); have n0_ := Aside0.mk (Kd.N_elder' (by (with_reducible repeat (first | apply Kd.N_alloc | apply Kd.N_drewN | apply Kd.N_drew)); exact HO145.out) (Kd.N_base ho29) hb); have n1_ := Aside0.mk (Kd.N_lower ho29 (below_size (by repeat (first | (with_reducible first | exact HB.out | apply below_alloc | apply pw_below_drewN | apply below_drew1) | exact HB.out)))); have n2_ := Aside0.mk (below_step (by repeat (first | (with_reducible first | exact HB.out | apply below_alloc | apply pw_below_drewN | apply below_drew1) | exact HB.out)) hb); clear HO145; clear HB; clear HO153; have HO145 := n0_; have HO156 := n1_; have HB := n2_; clear n0_ n1_ n2_; clear hb ho29; obtain ⟨Ao30, co30, eo30⟩ := Kd.N_slice HO145.out; subst eo30; obtain ⟨Ao31, co31, eo31⟩ := Kd.N_slice HO156.out; subst eo31) | ((with_reducible refine gate_callee (f := 12) rfl ?_); refine goesL_ (some 24) rfl rfl Try.func12 (by kernel_rfl) rfl #[.slice Ao30 t143.length co30, .slice Ao31 y154.length co31] rfl (by (try simp only [List.map_toArray, List.map_cons, List.map_nil]); first | done | rfl | (simp only [List.length_drop, List.length_take]; rfl)) ?_; (with_reducible refine (muslinref14_Same.calls k _ _ t143 _ _ y154 true _ ?side1 ?side2 ?side3 ?side4 A3.out).mono ?_); (case side1 => repeat (first | exact (Kd.N_reads' HO145.out).2.2 | (with_reducible refine Kd.C_alloc ?_ _) | (with_reducible refine Kd.C_drewN ?_ _) | (with_reducible refine Kd.C_drew ?_))); (case side2 => exact (Kd.N_reads' HO145.out).2.1); (case side3 => repeat (first | exact (Kd.N_reads' HO156.out).2.2 | (with_reducible refine Kd.C_alloc ?_ _) | (with_reducible refine Kd.C_drewN ?_ _) | (with_reducible refine Kd.C_drew ?_))); (case side4 => exact (Kd.N_reads' HO156.out).2.1); rintro e w32 ⟨rfl, hb⟩; refine ⟨_, rfl, ?_⟩; have n0_ := Aside0.mk (Kd.N_below (by (with_reducible repeat (first | apply Kd.N_alloc | apply Kd.N_drewN | apply Kd.N_drew)); exact HO145.out) hb); have n1_ := Aside0.mk (Kd.N_below (by (with_reducible repeat (first | apply Kd.N_alloc | apply Kd.N_drewN | apply Kd.N_drew)); exact HO156.out) hb); have n2_ := Aside0.mk (below_step (by repeat (first | (with_reducible first | exact HB.out | apply below_alloc | apply pw_below_drewN | apply below_drew1) | exact HB.out)) hb); clear HO145; clear HO156; clear HB; have HO145 := n0_; have HO156 := n1_; have HB := n2_; clear n0_ n1_ n2_; (try clear hb); (try clear hb2); (try clear hk); (try clear hi)))
        go_ret
        exact ⟨by first | rfl | (simp [errW_none, errW_some] <;> rfl) | (simp [*, errW_none, errW_some] <;> rfl), by repeat (first | (with_reducible first | exact HB.out | apply below_alloc | apply pw_below_drewN | apply below_drew1) | exact HB.out)⟩
    · rw [if_neg c5] at H
      have c5b0 : (t146 == 2) = false := beq_eq_false_iff_ne.mpr c5
      have c5b1 : (t146 != 2) = true := bne_iff_ne.mpr c5
      obtain rfl := Option.some.inj H
      go_enter Try.func9, Try.ntmps9
      go_wp2_with (first | ((with_reducible refine gate_callee (f := 13) rfl ?_); refine goesL_ (some 5) rfl rfl Try.func13 (by kernel_rfl) rfl #[.string (⟨#[97, 10, 10, 62, 32, 98, 10, 62, 62, 32, 99, 10, 100, 13, 10, 101]⟩ : ByteArray)] rfl (by (try simp only [List.map_toArray, List.map_cons, List.map_nil]); first | done | rfl | (simp only [List.length_drop, List.length_take]; rfl)) ?_; (with_reducible refine (plain_Tree.calls k (⟨#[97, 10, 10, 62, 32, 98, 10, 62, 62, 32, 99, 10, 100, 13, 10, 101]⟩ : ByteArray) t143 _ A1.out).mono ?_); rintro e w33 ⟨v144, rfl, ho0, hb⟩; refine ⟨_, rfl, ?_⟩; have n0_ := Aside0.mk (Kd.N_lower (Kd.N_mono (ok' := fun k_ => True) (Kd.R_N (Kd.R_bound ho0)) (fun k_ hk_ => trivial)) (below_size (by repeat (first | (with_reducible first | exact HB.out | apply below_alloc | apply pw_below_drewN | apply below_drew1) | exact HB.out)))); have n1_ := Aside0.mk (below_step (by repeat (first | (with_reducible first | exact HB.out | apply below_alloc | apply pw_below_drewN | apply below_drew1) | exact HB.out)) hb); clear HB; have HO145 := n0_; have HB := n1_; clear n0_ n1_; (try clear hb); (try clear hb2); (try clear hk); (try clear hi); (try clear ho0)) | ((with_reducible refine gate_callee (f := 10) rfl ?_); refine goesL_ (some 7) rfl rfl Try.func10 (by kernel_rfl) rfl #[.string (⟨#[62, 32, 62, 32, 32, 120]⟩ : ByteArray)] rfl (by (try simp only [List.map_toArray, List.map_cons, List.map_nil]); first | done | rfl | (simp only [List.length_drop, List.length_take]; rfl)) ?_; (with_reducible refine (plain_Level.calls k (⟨#[62, 32, 62, 32, 32, 120]⟩ : ByteArray) t146 t147 _ A2.out).mono ?_); rintro e w' ⟨rfl, ⟨nd, rfl⟩⟩; refine ⟨_, rfl, ?_⟩) | ((with_reducible refine gate_dst (N := 14) rfl ?_); refine Kd.N_lit k36 _ 36 ?hg (N' := 14) ?hd (xs := ([(⟨(⟨#[]⟩ : ByteArray), ([] : List (S51)), (⟨#[99]⟩ : ByteArray), ([] : List (S36))⟩ : S36)] : List (S36))) (inner := [.string (⟨#[]⟩ : ByteArray), .slice none 0 0, .string (⟨#[99]⟩ : ByteArray), .slice none 0 0]) (ok := (fun k_ => some k_ ≠ (v144 : Value).ownBlock)) (okp := (fun k_ => some k_ ≠ (v144 : Value).ownBlock)) ?hr ?hp (fun _ hk => hk) ((show ∀ k_, w33.heap.size ≤ k_ → (fun k_ => some k_ ≠ (v144 : Value).ownBlock) k_ from fun k_ hk => Kd.fresh' (Kd.N_lt (by (with_reducible repeat (first | apply Kd.N_alloc | apply Kd.N_drewN | apply Kd.N_drew)); exact HO145.out)) k_ hk) _ (Nat.le_refl _)) (Below.refl _ _) (Nat.le_refl _) (by simp) ?_; (case hd => rfl); (case hg => rfl); (case hr => first | (go_simp; done) | (go_simp; rfl)); (case hp => exact (Reps.c4 (show Kd.FK k36 _ _ (⟨(⟨#[]⟩ : ByteArray), ([] : List (S51)), (⟨#[99]⟩ : ByteArray), ([] : List (S36))⟩ : S36) [.string (⟨#[]⟩ : ByteArray), .slice none 0 0, .string (⟨#[99]⟩ : ByteArray), .slice none 0 0] from (k36_mkF _ _ (⟨(⟨#[]⟩ : ByteArray), ([] : List (S51)), (⟨#[99]⟩ : ByteArray), ([] : List (S36))⟩ : S36) (Nat.le_refl _) (Kd.F_nil _ _ _) (Nat.le_refl _) (Kd.F_nil _ _ _))) (Reps.none _ _))); intro v149 w34 ho35 hb hg_ hnew_; clear hg_ hnew_; (first | rw [← Ny148.out] at ho35 | (simp only [Int.reduceToNat] at ho35; rw [← Ny148.out] at ho35)); have n0_ := Aside0.mk (Kd.N_elder' (by (with_reducible repeat (first | apply Kd.N_alloc | apply Kd.N_drewN | apply Kd.N_drew)); exact HO145.out) (Kd.N_base ho35) hb); have n1_ := Aside0.mk (Kd.N_lower ho35 (below_size (by repeat (first | (with_reducible first | exact HB.out | apply below_alloc | apply pw_below_drewN | apply below_drew1) | exact HB.out)))); have n2_ := Aside0.mk (below_step (by repeat (first | (with_reducible first | exact HB.out | apply below_alloc | apply pw_below_drewN | apply below_drew1) | exact HB.out)) hb); clear HO145; clear HB; have HO145 := n0_; have HO150 := n1_; have HB := n2_; clear n0_ n1_ n2_; clear hb ho35; obtain ⟨Ao36, co36, eo36⟩ := Kd.N_slice HO150.out; subst eo36) | ((with_reducible refine gate_dst (N := 16) rfl ?_); refine Kd.N_lit k36 _ 36 ?hg (N' := 16) ?hd (xs := ([(⟨(⟨#[]⟩ : ByteArray), ([] : List (S51)), (⟨#[98]⟩ : ByteArray), ([] : List (S36))⟩ : S36), (⟨(⟨#[98, 108, 111, 99, 107, 113, 117, 111, 116, 101]⟩ : ByteArray), ([] : List (S51)), (⟨#[]⟩ : ByteArray), y148⟩ : S36)] : List (S36))) (inner := [.string (⟨#[]⟩ : ByteArray), .slice none 0 0, .string (⟨#[98]⟩ : ByteArray), .slice none 0 0, .string (⟨#[98, 108, 111, 99, 107, 113, 117, 111, 116, 101]⟩ : ByteArray), .slice none 0 0, .string (⟨#[]⟩ : ByteArray), .slice Ao36 y148.length co36]) (ok := (fun k_ => some k_ ≠ (v144 : Value).ownBlock)) (okp := (fun k_ => some k_ ≠ (v144 : Value).ownBlock)) ?hr ?hp (fun _ hk => hk) ((show ∀ k_, w34.heap.size ≤ k_ → (fun k_ => some k_ ≠ (v144 : Value).ownBlock) k_ from fun k_ hk => Kd.fresh' (Kd.N_lt (by (with_reducible repeat (first | apply Kd.N_alloc | apply Kd.N_drewN | apply Kd.N_drew)); exact HO145.out)) k_ hk) _ (Nat.le_refl _)) (Below.refl _ _) (Nat.le_refl _) (by simp) ?_; (case hd => rfl); (case hg => rfl); (case hr => first | (go_simp; done) | (go_simp; rfl)); (case hp => exact (Reps.c4 (show Kd.FK k36 _ _ (⟨(⟨#[]⟩ : ByteArray), ([] : List (S51)), (⟨#[98]⟩ : ByteArray), ([] : List (S36))⟩ : S36) [.string (⟨#[]⟩ : ByteArray), .slice none 0 0, .string (⟨#[98]⟩ : ByteArray), .slice none 0 0] from (k36_mkF _ _ (⟨(⟨#[]⟩ : ByteArray), ([] : List (S51)), (⟨#[98]⟩ : ByteArray), ([] : List (S36))⟩ : S36) (Nat.le_refl _) (Kd.F_nil _ _ _) (Nat.le_refl _) (Kd.F_nil _ _ _))) (Reps.c4 (show Kd.FK k36 _ _ (⟨(⟨#[98, 108, 111, 99, 107, 113, 117, 111, 116, 101]⟩ : ByteArray), ([] : List (S51)), (⟨#[]⟩ : ByteArray), y148⟩ : S36) [.string (⟨#[98, 108, 111, 99, 107, 113, 117, 111, 116, 101]⟩ : ByteArray), .slice none 0 0, .string (⟨#[]⟩ : ByteArray), .slice Ao36 y148.length co36] from (k36_mkF _ _ (⟨(⟨#[98, 108, 111, 99, 107, 113, 117, 111, 116, 101]⟩ : ByteArray), ([] : List (S51)), (⟨#[]⟩ : ByteArray), y148⟩ : S36) (Nat.le_refl _) (Kd.F_nil _ _ _) (Kd.N_reads' (Kd.N_mono (ok' := (fun k_ => some k_ ≠ (v144 : Value).ownBlock)) (HO150.out) (fun k_ hk => hk))).2.1 (Kd.N_F (Kd.N_mono (ok' := (fun k_ => some k_ ≠ (v144 : Value).ownBlock)) (HO150.out) (fun k_ hk => hk))))) (Reps.none _ _)))); intro v152 w37 ho38 hb hg_ hnew_; clear hg_ hnew_; (first | rw [← Ny151.out] at ho38 | (simp only [Int.reduceToNat] at ho38; rw [← Ny151.out] at ho38)); have n0_ := Aside0.mk (Kd.N_elder' (by (with_reducible repeat (first | apply Kd.N_alloc | apply Kd.N_drewN | apply Kd.N_drew)); exact HO145.out) (Kd.N_base ho38) hb); have n1_ := Aside0.mk (Kd.N_lower ho38 (below_size (by repeat (first | (with_reducible first | exact HB.out | apply below_alloc | apply pw_below_drewN | apply below_drew1) | exact HB.out)))); have n2_ := Aside0.mk (below_step (by repeat (first | (with_reducible first | exact HB.out | apply below_alloc | apply pw_below_drewN | apply below_drew1) | exact HB.out)) hb); clear HO145; clear HB; clear HO150; have HO145 := n0_; have HO153 := n1_; have HB := n2_; clear n0_ n1_ n2_; clear hb ho38; obtain ⟨Ao39, co39, eo39⟩ := Kd.N_slice HO153.out; subst eo39) | ((with_reducible refine gate_dst (N := 21) rfl ?_); refine Kd.N_lit k36 _ 36 ?hg (N' := 21) ?hd (xs := ([(⟨(⟨#[]⟩ : ByteArray), ([] : List (S51)), (⟨#[97]⟩ : ByteArray), ([] : List (S36))⟩ : S36), (⟨(⟨#[98, 114]⟩ : ByteArray), ([] : List (S51)), (⟨#[]⟩ : ByteArray), ([] : List (S36))⟩ : S36), (⟨(⟨#[98, 108, 111, 99, 107, 113, 117, 111, 116, 101]⟩ : ByteArray), ([] : List (S51)), (⟨#[]⟩ : ByteArray), y151⟩ : S36), (⟨(⟨#[]⟩ : ByteArray), ([] : List (S51)), (⟨#[100]⟩ : ByteArray), ([] : List (S36))⟩ : S36), (⟨(⟨#[98, 114]⟩ : ByteArray), ([] : List (S51)), (⟨#[]⟩ : ByteArray), ([] : List (S36))⟩ : S36), (⟨(⟨#[]⟩ : ByteArray), ([] : List (S51)), (⟨#[101]⟩ : ByteArray), ([] : List (S36))⟩ : S36)] : List (S36))) (inner := [.string (⟨#[]⟩ : ByteArray), .slice none 0 0, .string (⟨#[97]⟩ : ByteArray), .slice none 0 0, .string (⟨#[98, 114]⟩ : ByteArray), .slice none 0 0, .string (⟨#[]⟩ : ByteArray), .slice none 0 0, .string (⟨#[98, 108, 111, 99, 107, 113, 117, 111, 116, 101]⟩ : ByteArray), .slice none 0 0, .string (⟨#[]⟩ : ByteArray), .slice Ao39 y151.length co39, .string (⟨#[]⟩ : ByteArray), .slice none 0 0, .string (⟨#[100]⟩ : ByteArray), .slice none 0 0, .string (⟨#[98, 114]⟩ : ByteArray), .slice none 0 0, .string (⟨#[]⟩ : ByteArray), .slice none 0 0, .string (⟨#[]⟩ : ByteArray), .slice none 0 0, .string (⟨#[101]⟩ : ByteArray), .slice none 0 0]) (ok := (fun k_ => some k_ ≠ (v144 : Value).ownBlock)) (okp := (fun k_ => some k_ ≠ (v144 : Value).ownBlock)) ?hr ?hp (fun _ hk => hk) ((show ∀ k_, w37.heap.size ≤ k_ → (fun k_ => some k_ ≠ (v144 : Value).ownBlock) k_ from fun k_ hk => Kd.fresh' (Kd.N_lt (by (with_reducible repeat (first | apply Kd.N_alloc | apply Kd.N_drewN | apply Kd.N_drew)); exact HO145.out)) k_ hk) _ (Nat.le_refl _)) (Below.refl _ _) (Nat.le_refl _) (by simp) ?_; (case hd => rfl); (case hg => rfl); (case hr => first | (go_simp; done) | (go_simp; rfl)); (case hp => exact (Reps.c4 (show Kd.FK k36 _ _ (⟨(⟨#[]⟩ : ByteArray), ([] : List (S51)), (⟨#[97]⟩ : ByteArray), ([] : List (S36))⟩ : S36) [.string (⟨#[]⟩ : ByteArray), .slice none 0 0, .string (⟨#[97]⟩ : ByteArray), .slice none 0 0] from (k36_mkF _ _ (⟨(⟨#[]⟩ : ByteArray), ([] : List (S51)), (⟨#[97]⟩ : ByteArray), ([] : List (S36))⟩ : S36) (Nat.le_refl _) (Kd.F_nil _ _ _) (Nat.le_refl _) (Kd.F_nil _ _ _))) (Reps.c4 (show Kd.FK k36 _ _ (⟨(⟨#[98, 114]⟩ : ByteArray), ([] : List (S51)), (⟨#[]⟩ : ByteArray), ([] : List (S36))⟩ : S36) [.string (⟨#[98, 114]⟩ : ByteArray), .slice none 0 0, .string (⟨#[]⟩ : ByteArray), .slice none 0 0] from (k36_mkF _ _ (⟨(⟨#[98, 114]⟩ : ByteArray), ([] : List (S51)), (⟨#[]⟩ : ByteArray), ([] : List (S36))⟩ : S36) (Nat.le_refl _) (Kd.F_nil _ _ _) (Nat.le_refl _) (Kd.F_nil _ _ _))) (Reps.c4 (show Kd.FK k36 _ _ (⟨(⟨#[98, 108, 111, 99, 107, 113, 117, 111, 116, 101]⟩ : ByteArray), ([] : List (S51)), (⟨#[]⟩ : ByteArray), y151⟩ : S36) [.string (⟨#[98, 108, 111, 99, 107, 113, 117, 111, 116, 101]⟩ : ByteArray), .slice none 0 0, .string (⟨#[]⟩ : ByteArray), .slice Ao39 y151.length co39] from (k36_mkF _ _ (⟨(⟨#[98, 108, 111, 99, 107, 113, 117, 111, 116, 101]⟩ : ByteArray), ([] : List (S51)), (⟨#[]⟩ : ByteArray), y151⟩ : S36) (Nat.le_refl _) (Kd.F_nil _ _ _) (Kd.N_reads' (Kd.N_mono (ok' := (fun k_ => some k_ ≠ (v144 : Value).ownBlock)) (HO153.out) (fun k_ hk => hk))).2.1 (Kd.N_F (Kd.N_mono (ok' := (fun k_ => some k_ ≠ (v144 : Value).ownBlock)) (HO153.out) (fun k_ hk => hk))))) (Reps.c4 (show Kd.FK k36 _ _ (⟨(⟨#[]⟩ : ByteArray), ([] : List (S51)), (⟨#[100]⟩ : ByteArray), ([] : List (S36))⟩ : S36) [.string (⟨#[]⟩ : ByteArray), .slice none 0 0, .string (⟨#[100]⟩ : ByteArray), .slice none 0 0] from (k36_mkF _ _ (⟨(⟨#[]⟩ : ByteArray), ([] : List (S51)), (⟨#[100]⟩ : ByteArray), ([] : List (S36))⟩ : S36) (Nat.le_refl _) (Kd.F_nil _ _ _) (Nat.le_refl _) (Kd.F_nil _ _ _))) (Reps.c4 (show Kd.FK k36 _ _ (⟨(⟨#[98, 114]⟩ : ByteArray), ([] : List (S51)), (⟨#[]⟩ : ByteArray), ([] : List (S36))⟩ : S36) [.string (⟨#[98, 114]⟩ : ByteArray), .slice none 0 0, .string (⟨#[]⟩ : ByteArray), .slice none 0 0] from (k36_mkF _ _ (⟨(⟨#[98, 114]⟩ : ByteArray), ([] : List (S51)), (⟨#[]⟩ : ByteArray), ([] : List (S36))⟩ : S36) (Nat.le_refl _) (Kd.F_nil _ _ _) (Nat.le_refl _) (Kd.F_nil _ _ _))) (Reps.c4 (show Kd.FK k36 _ _ (⟨(⟨#[]⟩ : ByteArray), ([] : List (S51)), (⟨#[101]⟩ : ByteArray), ([] : List (S36))⟩ : S36) [.string (⟨#[]⟩ : ByteArray), .slice none 0 0, .string (⟨#[101]⟩ : ByteArray), .slice none 0 0] from (k36_mkF _ _ (⟨(⟨#[]⟩ : ByteArray), ([] : List (S51)), (⟨#[101]⟩ : ByteArray), ([] : List (S36))⟩ : S36) (Nat.le_refl _) (Kd.F_nil _ _ _) (Nat.le_refl _) (Kd.F_nil _ _ _))) (Reps.none _ _)))))))); intro v155 w40 ho41 hb hg_ hnew_; clear hg_ hnew_; (first | rw [← Ny154.out] at ho41 | (simp only [Int.reduceToNat] at ho41; rw [← Ny154.out] at ho41)); have n0_ := Aside0.mk (Kd.N_elder' (by (with_reducible repeat (first | apply Kd.N_alloc | apply Kd.N_drewN | apply Kd.N_drew)); exact HO145.out) (Kd.N_base ho41) hb); have n1_ := Aside0.mk (Kd.N_lower ho41 (below_size (by repeat (first | (with_reducible first | exact HB.out | apply below_alloc | apply pw_below_drewN | apply below_drew1) | exact HB.out)))); have n2_ := Aside0.mk (below_step (by repeat (first | (with_reducible first | exact HB.out | apply below_alloc | apply pw_below_drewN | apply below_drew1) | exact HB.out)) hb); clear HO145; clear HB; clear HO153; have HO145 := n0_; have HO156 := n1_; have HB := n2_; clear n0_ n1_ n2_; clear hb ho41; obtain ⟨Ao42, co42, eo42⟩ := Kd.N_slice HO145.out; subst eo42; obtain ⟨Ao43, co43, eo43⟩ := Kd.N_slice HO156.out; subst eo43) | ((with_reducible refine gate_callee (f := 12) rfl ?_); refine goesL_ (some 24) rfl rfl Try.func12 (by kernel_rfl) rfl #[.slice Ao42 t143.length co42, .slice Ao43 y154.length co43] rfl (by (try simp only [List.map_toArray, List.map_cons, List.map_nil]); first | done | rfl | (simp only [List.length_drop, List.length_take]; rfl)) ?_; (with_reducible refine (muslinref14_Same.calls k _ _ t143 _ _ y154 true _ ?side1 ?side2 ?side3 ?side4 A3.out).mono ?_); (case side1 => repeat (first | exact (Kd.N_reads' HO145.out).2.2 | (with_reducible refine Kd.C_alloc ?_ _) | (with_reducible refine Kd.C_drewN ?_ _) | (with_reducible refine Kd.C_drew ?_))); (case side2 => exact (Kd.N_reads' HO145.out).2.1); (case side3 => repeat (first | exact (Kd.N_reads' HO156.out).2.2 | (with_reducible refine Kd.C_alloc ?_ _) | (with_reducible refine Kd.C_drewN ?_ _) | (with_reducible refine Kd.C_drew ?_))); (case side4 => exact (Kd.N_reads' HO156.out).2.1); rintro e w44 ⟨rfl, hb⟩; refine ⟨_, rfl, ?_⟩; have n0_ := Aside0.mk (Kd.N_below (by (with_reducible repeat (first | apply Kd.N_alloc | apply Kd.N_drewN | apply Kd.N_drew)); exact HO145.out) hb); have n1_ := Aside0.mk (Kd.N_below (by (with_reducible repeat (first | apply Kd.N_alloc | apply Kd.N_drewN | apply Kd.N_drew)); exact HO156.out) hb); have n2_ := Aside0.mk (below_step (by repeat (first | (with_reducible first | exact HB.out | apply below_alloc | apply pw_below_drewN | apply below_drew1) | exact HB.out)) hb); clear HO145; clear HO156; clear HB; have HO145 := n0_; have HO156 := n1_; have HB := n2_; clear n0_ n1_ n2_; (try clear hb); (try clear hb2); (try clear hk); (try clear hi)))
      go_ret
      exact ⟨by first | rfl | (simp [errW_none, errW_some] <;> rfl) | (simp [*, errW_none, errW_some] <;> rfl), by repeat (first | (with_reducible first | exact HB.out | apply below_alloc | apply pw_below_drewN | apply below_drew1) | exact HB.out)⟩
  · replace c4 := Bool.eq_false_iff.mpr c4
    subst c4
    have H1 : (some false) = some r := by rw [if_neg (show ¬ (false = true) by decide)] at H; exact H
    clear H
    have H := H1
    clear H1
    obtain rfl := Option.some.inj H
    go_enter Try.func9, Try.ntmps9
    go_wp2_with (first | ((with_reducible refine gate_callee (f := 13) rfl ?_); refine goesL_ (some 5) rfl rfl Try.func13 (by kernel_rfl) rfl #[.string (⟨#[97, 10, 10, 62, 32, 98, 10, 62, 62, 32, 99, 10, 100, 13, 10, 101]⟩ : ByteArray)] rfl (by (try simp only [List.map_toArray, List.map_cons, List.map_nil]); first | done | rfl | (simp only [List.length_drop, List.length_take]; rfl)) ?_; (with_reducible refine (plain_Tree.calls k (⟨#[97, 10, 10, 62, 32, 98, 10, 62, 62, 32, 99, 10, 100, 13, 10, 101]⟩ : ByteArray) t143 _ A1.out).mono ?_); rintro e w45 ⟨v144, rfl, ho0, hb⟩; refine ⟨_, rfl, ?_⟩; have n0_ := Aside0.mk (Kd.N_lower (Kd.N_mono (ok' := fun k_ => True) (Kd.R_N (Kd.R_bound ho0)) (fun k_ hk_ => trivial)) (below_size (by repeat (first | (with_reducible first | exact HB.out | apply below_alloc | apply pw_below_drewN | apply below_drew1) | exact HB.out)))); have n1_ := Aside0.mk (below_step (by repeat (first | (with_reducible first | exact HB.out | apply below_alloc | apply pw_below_drewN | apply below_drew1) | exact HB.out)) hb); clear HB; have HO145 := n0_; have HB := n1_; clear n0_ n1_; (try clear hb); (try clear hb2); (try clear hk); (try clear hi); (try clear ho0)) | ((with_reducible refine gate_callee (f := 10) rfl ?_); refine goesL_ (some 7) rfl rfl Try.func10 (by kernel_rfl) rfl #[.string (⟨#[62, 32, 62, 32, 32, 120]⟩ : ByteArray)] rfl (by (try simp only [List.map_toArray, List.map_cons, List.map_nil]); first | done | rfl | (simp only [List.length_drop, List.length_take]; rfl)) ?_; (with_reducible refine (plain_Level.calls k (⟨#[62, 32, 62, 32, 32, 120]⟩ : ByteArray) t146 t147 _ A2.out).mono ?_); rintro e w' ⟨rfl, ⟨nd, rfl⟩⟩; refine ⟨_, rfl, ?_⟩) | ((with_reducible refine gate_dst (N := 14) rfl ?_); refine Kd.N_lit k36 _ 36 ?hg (N' := 14) ?hd (xs := ([(⟨(⟨#[]⟩ : ByteArray), ([] : List (S51)), (⟨#[99]⟩ : ByteArray), ([] : List (S36))⟩ : S36)] : List (S36))) (inner := [.string (⟨#[]⟩ : ByteArray), .slice none 0 0, .string (⟨#[99]⟩ : ByteArray), .slice none 0 0]) (ok := (fun k_ => some k_ ≠ (v144 : Value).ownBlock)) (okp := (fun k_ => some k_ ≠ (v144 : Value).ownBlock)) ?hr ?hp (fun _ hk => hk) ((show ∀ k_, w45.heap.size ≤ k_ → (fun k_ => some k_ ≠ (v144 : Value).ownBlock) k_ from fun k_ hk => Kd.fresh' (Kd.N_lt (by (with_reducible repeat (first | apply Kd.N_alloc | apply Kd.N_drewN | apply Kd.N_drew)); exact HO145.out)) k_ hk) _ (Nat.le_refl _)) (Below.refl _ _) (Nat.le_refl _) (by simp) ?_; (case hd => rfl); (case hg => rfl); (case hr => first | (go_simp; done) | (go_simp; rfl)); (case hp => exact (Reps.c4 (show Kd.FK k36 _ _ (⟨(⟨#[]⟩ : ByteArray), ([] : List (S51)), (⟨#[99]⟩ : ByteArray), ([] : List (S36))⟩ : S36) [.string (⟨#[]⟩ : ByteArray), .slice none 0 0, .string (⟨#[99]⟩ : ByteArray), .slice none 0 0] from (k36_mkF _ _ (⟨(⟨#[]⟩ : ByteArray), ([] : List (S51)), (⟨#[99]⟩ : ByteArray), ([] : List (S36))⟩ : S36) (Nat.le_refl _) (Kd.F_nil _ _ _) (Nat.le_refl _) (Kd.F_nil _ _ _))) (Reps.none _ _))); intro v149 w46 ho47 hb hg_ hnew_; clear hg_ hnew_; (first | rw [← Ny148.out] at ho47 | (simp only [Int.reduceToNat] at ho47; rw [← Ny148.out] at ho47)); have n0_ := Aside0.mk (Kd.N_elder' (by (with_reducible repeat (first | apply Kd.N_alloc | apply Kd.N_drewN | apply Kd.N_drew)); exact HO145.out) (Kd.N_base ho47) hb); have n1_ := Aside0.mk (Kd.N_lower ho47 (below_size (by repeat (first | (with_reducible first | exact HB.out | apply below_alloc | apply pw_below_drewN | apply below_drew1) | exact HB.out)))); have n2_ := Aside0.mk (below_step (by repeat (first | (with_reducible first | exact HB.out | apply below_alloc | apply pw_below_drewN | apply below_drew1) | exact HB.out)) hb); clear HO145; clear HB; have HO145 := n0_; have HO150 := n1_; have HB := n2_; clear n0_ n1_ n2_; clear hb ho47; obtain ⟨Ao48, co48, eo48⟩ := Kd.N_slice HO150.out; subst eo48) | ((with_reducible refine gate_dst (N := 16) rfl ?_); refine Kd.N_lit k36 _ 36 ?hg (N' := 16) ?hd (xs := ([(⟨(⟨#[]⟩ : ByteArray), ([] : List (S51)), (⟨#[98]⟩ : ByteArray), ([] : List (S36))⟩ : S36), (⟨(⟨#[98, 108, 111, 99, 107, 113, 117, 111, 116, 101]⟩ : ByteArray), ([] : List (S51)), (⟨#[]⟩ : ByteArray), y148⟩ : S36)] : List (S36))) (inner := [.string (⟨#[]⟩ : ByteArray), .slice none 0 0, .string (⟨#[98]⟩ : ByteArray), .slice none 0 0, .string (⟨#[98, 108, 111, 99, 107, 113, 117, 111, 116, 101]⟩ : ByteArray), .slice none 0 0, .string (⟨#[]⟩ : ByteArray), .slice Ao48 y148.length co48]) (ok := (fun k_ => some k_ ≠ (v144 : Value).ownBlock)) (okp := (fun k_ => some k_ ≠ (v144 : Value).ownBlock)) ?hr ?hp (fun _ hk => hk) ((show ∀ k_, w46.heap.size ≤ k_ → (fun k_ => some k_ ≠ (v144 : Value).ownBlock) k_ from fun k_ hk => Kd.fresh' (Kd.N_lt (by (with_reducible repeat (first | apply Kd.N_alloc | apply Kd.N_drewN | apply Kd.N_drew)); exact HO145.out)) k_ hk) _ (Nat.le_refl _)) (Below.refl _ _) (Nat.le_refl _) (by simp) ?_; (case hd => rfl); (case hg => rfl); (case hr => first | (go_simp; done) | (go_simp; rfl)); (case hp => exact (Reps.c4 (show Kd.FK k36 _ _ (⟨(⟨#[]⟩ : ByteArray), ([] : List (S51)), (⟨#[98]⟩ : ByteArray), ([] : List (S36))⟩ : S36) [.string (⟨#[]⟩ : ByteArray), .slice none 0 0, .string (⟨#[98]⟩ : ByteArray), .slice none 0 0] from (k36_mkF _ _ (⟨(⟨#[]⟩ : ByteArray), ([] : List (S51)), (⟨#[98]⟩ : ByteArray), ([] : List (S36))⟩ : S36) (Nat.le_refl _) (Kd.F_nil _ _ _) (Nat.le_refl _) (Kd.F_nil _ _ _))) (Reps.c4 (show Kd.FK k36 _ _ (⟨(⟨#[98, 108, 111, 99, 107, 113, 117, 111, 116, 101]⟩ : ByteArray), ([] : List (S51)), (⟨#[]⟩ : ByteArray), y148⟩ : S36) [.string (⟨#[98, 108, 111, 99, 107, 113, 117, 111, 116, 101]⟩ : ByteArray), .slice none 0 0, .string (⟨#[]⟩ : ByteArray), .slice Ao48 y148.length co48] from (k36_mkF _ _ (⟨(⟨#[98, 108, 111, 99, 107, 113, 117, 111, 116, 101]⟩ : ByteArray), ([] : List (S51)), (⟨#[]⟩ : ByteArray), y148⟩ : S36) (Nat.le_refl _) (Kd.F_nil _ _ _) (Kd.N_reads' (Kd.N_mono (ok' := (fun k_ => some k_ ≠ (v144 : Value).ownBlock)) (HO150.out) (fun k_ hk => hk))).2.1 (Kd.N_F (Kd.N_mono (ok' := (fun k_ => some k_ ≠ (v144 : Value).ownBlock)) (HO150.out) (fun k_ hk => hk))))) (Reps.none _ _)))); intro v152 w49 ho50 hb hg_ hnew_; clear hg_ hnew_; (first | rw [← Ny151.out] at ho50 | (simp only [Int.reduceToNat] at ho50; rw [← Ny151.out] at ho50)); have n0_ := Aside0.mk (Kd.N_elder' (by (with_reducible repeat (first | apply Kd.N_alloc | apply Kd.N_drewN | apply Kd.N_drew)); exact HO145.out) (Kd.N_base ho50) hb); have n1_ := Aside0.mk (Kd.N_lower ho50 (below_size (by repeat (first | (with_reducible first | exact HB.out | apply below_alloc | apply pw_below_drewN | apply below_drew1) | exact HB.out)))); have n2_ := Aside0.mk (below_step (by repeat (first | (with_reducible first | exact HB.out | apply below_alloc | apply pw_below_drewN | apply below_drew1) | exact HB.out)) hb); clear HO145; clear HB; clear HO150; have HO145 := n0_; have HO153 := n1_; have HB := n2_; clear n0_ n1_ n2_; clear hb ho50; obtain ⟨Ao51, co51, eo51⟩ := Kd.N_slice HO153.out; subst eo51) | ((with_reducible refine gate_dst (N := 21) rfl ?_); refine Kd.N_lit k36 _ 36 ?hg (N' := 21) ?hd (xs := ([(⟨(⟨#[]⟩ : ByteArray), ([] : List (S51)), (⟨#[97]⟩ : ByteArray), ([] : List (S36))⟩ : S36), (⟨(⟨#[98, 114]⟩ : ByteArray), ([] : List (S51)), (⟨#[]⟩ : ByteArray), ([] : List (S36))⟩ : S36), (⟨(⟨#[98, 108, 111, 99, 107, 113, 117, 111, 116, 101]⟩ : ByteArray), ([] : List (S51)), (⟨#[]⟩ : ByteArray), y151⟩ : S36), (⟨(⟨#[]⟩ : ByteArray), ([] : List (S51)), (⟨#[100]⟩ : ByteArray), ([] : List (S36))⟩ : S36), (⟨(⟨#[98, 114]⟩ : ByteArray), ([] : List (S51)), (⟨#[]⟩ : ByteArray), ([] : List (S36))⟩ : S36), (⟨(⟨#[]⟩ : ByteArray), ([] : List (S51)), (⟨#[101]⟩ : ByteArray), ([] : List (S36))⟩ : S36)] : List (S36))) (inner := [.string (⟨#[]⟩ : ByteArray), .slice none 0 0, .string (⟨#[97]⟩ : ByteArray), .slice none 0 0, .string (⟨#[98, 114]⟩ : ByteArray), .slice none 0 0, .string (⟨#[]⟩ : ByteArray), .slice none 0 0, .string (⟨#[98, 108, 111, 99, 107, 113, 117, 111, 116, 101]⟩ : ByteArray), .slice none 0 0, .string (⟨#[]⟩ : ByteArray), .slice Ao51 y151.length co51, .string (⟨#[]⟩ : ByteArray), .slice none 0 0, .string (⟨#[100]⟩ : ByteArray), .slice none 0 0, .string (⟨#[98, 114]⟩ : ByteArray), .slice none 0 0, .string (⟨#[]⟩ : ByteArray), .slice none 0 0, .string (⟨#[]⟩ : ByteArray), .slice none 0 0, .string (⟨#[101]⟩ : ByteArray), .slice none 0 0]) (ok := (fun k_ => some k_ ≠ (v144 : Value).ownBlock)) (okp := (fun k_ => some k_ ≠ (v144 : Value).ownBlock)) ?hr ?hp (fun _ hk => hk) ((show ∀ k_, w49.heap.size ≤ k_ → (fun k_ => some k_ ≠ (v144 : Value).ownBlock) k_ from fun k_ hk => Kd.fresh' (Kd.N_lt (by (with_reducible repeat (first | apply Kd.N_alloc | apply Kd.N_drewN | apply Kd.N_drew)); exact HO145.out)) k_ hk) _ (Nat.le_refl _)) (Below.refl _ _) (Nat.le_refl _) (by simp) ?_; (case hd => rfl); (case hg => rfl); (case hr => first | (go_simp; done) | (go_simp; rfl)); (case hp => exact (Reps.c4 (show Kd.FK k36 _ _ (⟨(⟨#[]⟩ : ByteArray), ([] : List (S51)), (⟨#[97]⟩ : ByteArray), ([] : List (S36))⟩ : S36) [.string (⟨#[]⟩ : ByteArray), .slice none 0 0, .string (⟨#[97]⟩ : ByteArray), .slice none 0 0] from (k36_mkF _ _ (⟨(⟨#[]⟩ : ByteArray), ([] : List (S51)), (⟨#[97]⟩ : ByteArray), ([] : List (S36))⟩ : S36) (Nat.le_refl _) (Kd.F_nil _ _ _) (Nat.le_refl _) (Kd.F_nil _ _ _))) (Reps.c4 (show Kd.FK k36 _ _ (⟨(⟨#[98, 114]⟩ : ByteArray), ([] : List (S51)), (⟨#[]⟩ : ByteArray), ([] : List (S36))⟩ : S36) [.string (⟨#[98, 114]⟩ : ByteArray), .slice none 0 0, .string (⟨#[]⟩ : ByteArray), .slice none 0 0] from (k36_mkF _ _ (⟨(⟨#[98, 114]⟩ : ByteArray), ([] : List (S51)), (⟨#[]⟩ : ByteArray), ([] : List (S36))⟩ : S36) (Nat.le_refl _) (Kd.F_nil _ _ _) (Nat.le_refl _) (Kd.F_nil _ _ _))) (Reps.c4 (show Kd.FK k36 _ _ (⟨(⟨#[98, 108, 111, 99, 107, 113, 117, 111, 116, 101]⟩ : ByteArray), ([] : List (S51)), (⟨#[]⟩ : ByteArray), y151⟩ : S36) [.string (⟨#[98, 108, 111, 99, 107, 113, 117, 111, 116, 101]⟩ : ByteArray), .slice none 0 0, .string (⟨#[]⟩ : ByteArray), .slice Ao51 y151.length co51] from (k36_mkF _ _ (⟨(⟨#[98, 108, 111, 99, 107, 113, 117, 111, 116, 101]⟩ : ByteArray), ([] : List (S51)), (⟨#[]⟩ : ByteArray), y151⟩ : S36) (Nat.le_refl _) (Kd.F_nil _ _ _) (Kd.N_reads' (Kd.N_mono (ok' := (fun k_ => some k_ ≠ (v144 : Value).ownBlock)) (HO153.out) (fun k_ hk => hk))).2.1 (Kd.N_F (Kd.N_mono (ok' := (fun k_ => some k_ ≠ (v144 : Value).ownBlock)) (HO153.out) (fun k_ hk => hk))))) (Reps.c4 (show Kd.FK k36 _ _ (⟨(⟨#[]⟩ : ByteArray), ([] : List (S51)), (⟨#[100]⟩ : ByteArray), ([] : List (S36))⟩ : S36) [.string (⟨#[]⟩ : ByteArray), .slice none 0 0, .string (⟨#[100]⟩ : ByteArray), .slice none 0 0] from (k36_mkF _ _ (⟨(⟨#[]⟩ : ByteArray), ([] : List (S51)), (⟨#[100]⟩ : ByteArray), ([] : List (S36))⟩ : S36) (Nat.le_refl _) (Kd.F_nil _ _ _) (Nat.le_refl _) (Kd.F_nil _ _ _))) (Reps.c4 (show Kd.FK k36 _ _ (⟨(⟨#[98, 114]⟩ : ByteArray), ([] : List (S51)), (⟨#[]⟩ : ByteArray), ([] : List (S36))⟩ : S36) [.string (⟨#[98, 114]⟩ : ByteArray), .slice none 0 0, .string (⟨#[]⟩ : ByteArray), .slice none 0 0] from (k36_mkF _ _ (⟨(⟨#[98, 114]⟩ : ByteArray), ([] : List (S51)), (⟨#[]⟩ : ByteArray), ([] : List (S36))⟩ : S36) (Nat.le_refl _) (Kd.F_nil _ _ _) (Nat.le_refl _) (Kd.F_nil _ _ _))) (Reps.c4 (show Kd.FK k36 _ _ (⟨(⟨#[]⟩ : ByteArray), ([] : List (S51)), (⟨#[101]⟩ : ByteArray), ([] : List (S36))⟩ : S36) [.string (⟨#[]⟩ : ByteArray), .slice none 0 0, .string (⟨#[101]⟩ : ByteArray), .slice none 0 0] from (k36_mkF _ _ (⟨(⟨#[]⟩ : ByteArray), ([] : List (S51)), (⟨#[101]⟩ : ByteArray), ([] : List (S36))⟩ : S36) (Nat.le_refl _) (Kd.F_nil _ _ _) (Nat.le_refl _) (Kd.F_nil _ _ _))) (Reps.none _ _)))))))); intro v155 w52 ho53 hb hg_ hnew_; clear hg_ hnew_; (first | rw [← Ny154.out] at ho53 | (simp only [Int.reduceToNat] at ho53; rw [← Ny154.out] at ho53)); have n0_ := Aside0.mk (Kd.N_elder' (by (with_reducible repeat (first | apply Kd.N_alloc | apply Kd.N_drewN | apply Kd.N_drew)); exact HO145.out) (Kd.N_base ho53) hb); have n1_ := Aside0.mk (Kd.N_lower ho53 (below_size (by repeat (first | (with_reducible first | exact HB.out | apply below_alloc | apply pw_below_drewN | apply below_drew1) | exact HB.out)))); have n2_ := Aside0.mk (below_step (by repeat (first | (with_reducible first | exact HB.out | apply below_alloc | apply pw_below_drewN | apply below_drew1) | exact HB.out)) hb); clear HO145; clear HB; clear HO153; have HO145 := n0_; have HO156 := n1_; have HB := n2_; clear n0_ n1_ n2_; clear hb ho53; obtain ⟨Ao54, co54, eo54⟩ := Kd.N_slice HO145.out; subst eo54; obtain ⟨Ao55, co55, eo55⟩ := Kd.N_slice HO156.out; subst eo55) | ((with_reducible refine gate_callee (f := 12) rfl ?_); refine goesL_ (some 24) rfl rfl Try.func12 (by kernel_rfl) rfl #[.slice Ao54 t143.length co54, .slice Ao55 y154.length co55] rfl (by (try simp only [List.map_toArray, List.map_cons, List.map_nil]); first | done | rfl | (simp only [List.length_drop, List.length_take]; rfl)) ?_; (with_reducible refine (muslinref14_Same.calls k _ _ t143 _ _ y154 false _ ?side1 ?side2 ?side3 ?side4 A3.out).mono ?_); (case side1 => repeat (first | exact (Kd.N_reads' HO145.out).2.2 | (with_reducible refine Kd.C_alloc ?_ _) | (with_reducible refine Kd.C_drewN ?_ _) | (with_reducible refine Kd.C_drew ?_))); (case side2 => exact (Kd.N_reads' HO145.out).2.1); (case side3 => repeat (first | exact (Kd.N_reads' HO156.out).2.2 | (with_reducible refine Kd.C_alloc ?_ _) | (with_reducible refine Kd.C_drewN ?_ _) | (with_reducible refine Kd.C_drew ?_))); (case side4 => exact (Kd.N_reads' HO156.out).2.1); rintro e w56 ⟨rfl, hb⟩; refine ⟨_, rfl, ?_⟩; have n0_ := Aside0.mk (Kd.N_below (by (with_reducible repeat (first | apply Kd.N_alloc | apply Kd.N_drewN | apply Kd.N_drew)); exact HO145.out) hb); have n1_ := Aside0.mk (Kd.N_below (by (with_reducible repeat (first | apply Kd.N_alloc | apply Kd.N_drewN | apply Kd.N_drew)); exact HO156.out) hb); have n2_ := Aside0.mk (below_step (by repeat (first | (with_reducible first | exact HB.out | apply below_alloc | apply pw_below_drewN | apply below_drew1) | exact HB.out)) hb); clear HO145; clear HO156; clear HB; have HO145 := n0_; have HO156 := n1_; have HB := n2_; clear n0_ n1_ n2_; (try clear hb); (try clear hb2); (try clear hk); (try clear hi)))
    go_ret
    exact ⟨by first | rfl | (simp [errW_none, errW_some] <;> rfl) | (simp [*, errW_none, errW_some] <;> rfl), by repeat (first | (with_reducible first | exact HB.out | apply below_alloc | apply pw_below_drewN | apply below_drew1) | exact HB.out)⟩

end Go.Proofs.Ythnbhcmekkadeaa.Pr
