/- Written by a program of this session (printx.py), with functions proved by hand counted as printed; Lean checks it. -/
import Derived.Test.YtomfdejamngkjaaDoorPrx0
import Derived.Test.YtomfdejamngkjaaDoorPrx2
import Derived.Test.YtomfdejamngkjaaDoorPrx3
import Derived.Test.YtomfdejamngkjaaDoorPrx4
import Derived.Test.YtomfdejamngkjaaDoorPrx6
import Derived.Test.YtomfdejamngkjaaDoorGiven
namespace Go.Proofs.YtomfdejamngkjaaDoor.Pr
open Go.RowKit Go.Proofs.YtomfdejamngkjaaDoorW.PrintWords Go.Proofs.YtomfdejamngkjaaDoorW.PrintLast Go.Proofs.YtomfdejamngkjaaDoorW.PrintMore
attribute [local go_sem] max2_int min2_int max_two min_two max_three min_three max_four min_four   -- for this text's walks alone
set_option linter.unusedVariables false
set_option linter.unusedSimpArgs false

private theorem sz_2 (a0 a1 : UInt8) : (⟨#[a0, a1]⟩ : ByteArray).size = 2 := rfl

/-! ### muslinref06_Write: function 21 -/
mutual
def muslinref06_Write.l0 : Nat → List (S29) → ByteArray → ByteArray → Int → Option (ByteArray × Int)
  | 0, _, _, _, _ => none
  | k + 1, x0, x1, x6, x7 => if x7 < (x0.length : Int) then (if 0 ≤ x7 then ((muslinref06_name.f k ((rd_T29 x0 x7).f0)).bind fun t224 => (if t224 = true then ((muslinref06_Trim.f k ((rd_T29 x0 x7).f1)).bind fun t226 => (muslinref06_Write.j1 k x0 x1 x6 x7 (t226.toList != ((rd_T29 x0 x7).f1).toList))) else (muslinref06_Write.j1 k x0 x1 x6 x7 true))) else (none)) else (if (x0.length : Int) > 500 then (some ((⟨#[]⟩ : ByteArray), 3)) else (if x6.size + 2 ≤ 9223372036854775807 then (if (x6 ++ (⟨#[13, 10]⟩ : ByteArray)).size + x1.size ≤ 9223372036854775807 then (some ((x6 ++ (⟨#[13, 10]⟩ : ByteArray)) ++ x1, 0)) else (none)) else (none)))
def muslinref06_Write.j1 : Nat → List (S29) → ByteArray → ByteArray → Int → Bool → Option (ByteArray × Int)
  | 0, _, _, _, _, _ => none
  | k + 1, x0, x1, x6, x7, x35 => if x35 = true then (some ((⟨#[]⟩ : ByteArray), 1)) else (muslinref06_Write.l1 k x0 x1 x6 x7 0)
def muslinref06_Write.l1 : Nat → List (S29) → ByteArray → ByteArray → Int → Int → Option (ByteArray × Int)
  | 0, _, _, _, _, _ => none
  | k + 1, x0, x1, x6, x7, x8 => if 0 ≤ x7 then (if x7 < (x0.length : Int) then (if x8 < (((rd_T29 x0 x7).f1).size : Int) then (if 0 ≤ x8 then (if (bt ((rd_T29 x0 x7).f1) x8) = 10 then (some ((⟨#[]⟩ : ByteArray), 1)) else (if (bt ((rd_T29 x0 x7).f1) x8) = 13 then (some ((⟨#[]⟩ : ByteArray), 1)) else (muslinref06_Write.l1 k x0 x1 x6 x7 (wrap64 (x8 + 1))))) else (none)) else (if x6.size + ((rd_T29 x0 x7).f0).size ≤ 9223372036854775807 then (if (x6 ++ ((rd_T29 x0 x7).f0)).size + 2 ≤ 9223372036854775807 then (if ((x6 ++ ((rd_T29 x0 x7).f0)) ++ (⟨#[58, 32]⟩ : ByteArray)).size + ((rd_T29 x0 x7).f1).size ≤ 9223372036854775807 then (if (((x6 ++ ((rd_T29 x0 x7).f0)) ++ (⟨#[58, 32]⟩ : ByteArray)) ++ ((rd_T29 x0 x7).f1)).size + 2 ≤ 9223372036854775807 then (muslinref06_Write.l0 k x0 x1 ((((x6 ++ ((rd_T29 x0 x7).f0)) ++ (⟨#[58, 32]⟩ : ByteArray)) ++ ((rd_T29 x0 x7).f1)) ++ (⟨#[13, 10]⟩ : ByteArray)) (wrap64 (x7 + 1))) else (none)) else (none)) else (none)) else (none))) else (none)) else (none)
end
def muslinref06_Write.f (k : Nat) (l0 : List (S29)) (a1 : ByteArray) : Option (ByteArray × Int) := muslinref06_Write.l0 k l0 a1 (⟨#[]⟩ : ByteArray) 0
theorem muslinref06_Write.mono_l : ∀ k, (∀ y0 y1 y2 y3, LeO (muslinref06_Write.l0 k y0 y1 y2 y3) (muslinref06_Write.l0 (k + 1) y0 y1 y2 y3)) ∧ (∀ y0 y1 y2 y3 y4, LeO (muslinref06_Write.j1 k y0 y1 y2 y3 y4) (muslinref06_Write.j1 (k + 1) y0 y1 y2 y3 y4)) ∧ (∀ y0 y1 y2 y3 y4, LeO (muslinref06_Write.l1 k y0 y1 y2 y3 y4) (muslinref06_Write.l1 (k + 1) y0 y1 y2 y3 y4))
  | 0 => ⟨fun _ _ _ _ r h => by simp [muslinref06_Write.l0] at h, fun _ _ _ _ _ r h => by simp [muslinref06_Write.j1] at h, fun _ _ _ _ _ r h => by simp [muslinref06_Write.l1] at h⟩
  | k + 1 => by
    obtain ⟨ih0, ih1, ih2⟩ := muslinref06_Write.mono_l k
    refine ⟨?_, ?_, ?_⟩
    · intro y0 y1 y2 y3
      unfold muslinref06_Write.l0
      repeat' first
      | (with_reducible exact ih0 _ _ _ _)
      | (with_reducible exact ih1 _ _ _ _ _)
      | (with_reducible exact ih2 _ _ _ _ _)
      | (with_reducible exact muslinref06_Trim.mono _ _)
      | (with_reducible exact muslinref06_name.mono _ _)
      | (with_reducible exact LeO.refl _)
      | (with_reducible exact LeO.none _)
      | (with_reducible refine LeO.ite ?_ ?_)
      | (with_reducible refine LeO.bind ?_ (fun _ => ?_))
      | exact ih0 _ _ _ _
      | exact ih1 _ _ _ _ _
      | exact ih2 _ _ _ _ _
      | exact muslinref06_Trim.mono _ _
      | exact muslinref06_name.mono _ _
      | exact LeO.none _
      | refine LeO.ite ?_ ?_
      | refine LeO.bind ?_ (fun _ => ?_)
    · intro y0 y1 y2 y3 y4
      unfold muslinref06_Write.j1
      repeat' first
      | (with_reducible exact ih0 _ _ _ _)
      | (with_reducible exact ih1 _ _ _ _ _)
      | (with_reducible exact ih2 _ _ _ _ _)
      | (with_reducible exact muslinref06_Trim.mono _ _)
      | (with_reducible exact muslinref06_name.mono _ _)
      | (with_reducible exact LeO.refl _)
      | (with_reducible exact LeO.none _)
      | (with_reducible refine LeO.ite ?_ ?_)
      | (with_reducible refine LeO.bind ?_ (fun _ => ?_))
      | exact ih0 _ _ _ _
      | exact ih1 _ _ _ _ _
      | exact ih2 _ _ _ _ _
      | exact muslinref06_Trim.mono _ _
      | exact muslinref06_name.mono _ _
      | exact LeO.none _
      | refine LeO.ite ?_ ?_
      | refine LeO.bind ?_ (fun _ => ?_)
    · intro y0 y1 y2 y3 y4
      unfold muslinref06_Write.l1
      repeat' first
      | (with_reducible exact ih0 _ _ _ _)
      | (with_reducible exact ih1 _ _ _ _ _)
      | (with_reducible exact ih2 _ _ _ _ _)
      | (with_reducible exact muslinref06_Trim.mono _ _)
      | (with_reducible exact muslinref06_name.mono _ _)
      | (with_reducible exact LeO.refl _)
      | (with_reducible exact LeO.none _)
      | (with_reducible refine LeO.ite ?_ ?_)
      | (with_reducible refine LeO.bind ?_ (fun _ => ?_))
      | exact ih0 _ _ _ _
      | exact ih1 _ _ _ _ _
      | exact ih2 _ _ _ _ _
      | exact muslinref06_Trim.mono _ _
      | exact muslinref06_name.mono _ _
      | exact LeO.none _
      | refine LeO.ite ?_ ?_
      | refine LeO.bind ?_ (fun _ => ?_)
theorem muslinref06_Write.mono : ∀ a0 a1 k, LeO (muslinref06_Write.f k a0 a1) (muslinref06_Write.f (k + 1) a0 a1) := by
  intro a0 a1 k
  obtain ⟨ih0, ih1, ih2⟩ := muslinref06_Write.mono_l k
  unfold muslinref06_Write.f
  repeat' first
      | (with_reducible exact ih0 _ _ _ _)
      | (with_reducible exact ih1 _ _ _ _ _)
      | (with_reducible exact ih2 _ _ _ _ _)
      | (with_reducible exact muslinref06_Trim.mono _ _)
      | (with_reducible exact muslinref06_name.mono _ _)
      | (with_reducible exact LeO.refl _)
      | (with_reducible exact LeO.none _)
      | (with_reducible refine LeO.ite ?_ ?_)
      | (with_reducible refine LeO.bind ?_ (fun _ => ?_))
      | exact ih0 _ _ _ _
      | exact ih1 _ _ _ _ _
      | exact ih2 _ _ _ _ _
      | exact muslinref06_Trim.mono _ _
      | exact muslinref06_name.mono _ _
      | exact LeO.none _
      | refine LeO.ite ?_ ?_
      | refine LeO.bind ?_ (fun _ => ?_)
set_option maxHeartbeats 8000000 in
set_option maxRecDepth 100000 in
theorem muslinref06_Write.calls (k : Nat) (A0 : Option Addr) (c0 : Nat) (l0 : List (S29)) (a1 : ByteArray) (r1 : ByteArray) (r2 : Int) (w : World) (hr0 : Kd.C k29 w A0 l0.length l0) (hc0 : l0.length ≤ c0) (h : muslinref06_Write.f k l0 a1 = some (r1, r2)) :
    Calls Tryd.prog 21 #[.slice A0 l0.length c0, .string a1] w fun e w' => e = .returned (.tuple #[.string r1, .int .i64 r2]) ∧ Drawn0 w w' := by
  have HR0 := Aside0.mk hr0
  have HC0 := Aside0.mk hc0
  clear hr0 hc0
  have H : (muslinref06_Write.l0 k l0 a1 (⟨#[]⟩ : ByteArray) 0) = some (r1, r2) := h
  clear h
  have H' := Aside0.mk H
  clear H
  go_enter Tryd.func21, Tryd.ntmps21
  go_wp2
  repeat (go_quiet (fail); try go_wp2)
  go_loopg [6, 7] k (fun kq v6 v7 w' => ∃ (x6_1 : ByteArray) (x7_1 : Int), v6 = .string x6_1 ∧ v7 = .int .i64 x7_1 ∧ Aside0 (muslinref06_Write.l0 kq l0 a1 x6_1 x7_1 = some (r1, r2)) ∧ Aside0 (kq ≤ k) ∧ Drawn0 w w')
  case atStart => exact ⟨((⟨#[]⟩ : ByteArray)), (0), (by first | rfl | (simp; done) | (simp [*]; done)), (by first | rfl | (simp; done) | (simp [*]; done)), H', ⟨Nat.le_refl _⟩, by repeat (first | exact Drawn0.refl _ | apply Drawn0.step)⟩
  case round =>
    clear H'
    try clear c2
    try clear p2
    obtain ⟨x6_1, x7_1, rfl, rfl, HA, HK1, ⟨m1, rfl⟩⟩ := hrel
    cases gk with
    | zero => exact absurd HA.out (by simp [muslinref06_Write.l0])
    | succ k1 =>
      have H := HA.out
      clear HA
      simp only [muslinref06_Write.l0] at H
      by_cases c3 : x7_1 < (l0.length : Int)
      · rw [if_pos c3] at H
        have c3b0 : decide (x7_1 < (l0.length : Int)) = true := decide_eq_true c3
        clear c3
        have HC4 := Aside0.mk H
        clear H
        go_upto_region 5 with (fail)
        repeat (go_quiet (fail); go_upto_region 5 with (fail))
        go_cut [35] (fun v35 wc => ∃ (kq : Nat) (x35_3 : Bool), v35 = .bool x35_3 ∧ Aside0 (muslinref06_Write.j1 kq l0 a1 x6_1 x7_1 x35_3 = some (r1, r2)) ∧ Aside0 (kq ≤ k1) ∧ Drawn0 w wc)
        case first =>
          have H := HC4.out
          clear HC4
          by_cases c5 : 0 ≤ x7_1
          · rw [if_pos c5] at H
            have c5b0 : decide (0 ≤ x7_1) = true := decide_eq_true c5
            clear c5
            (first | rw [c5b0] | (simp only [i64_w, i32_w]; rw [c5b0]) | skip)
            replace H := Option.bind_eq_some_iff.mp H
            obtain ⟨t224, A60, H⟩ := H
            replace H : (if t224 = true then ((muslinref06_Trim.f k1 ((rd_T29 l0 x7_1).f1)).bind fun t226 => (muslinref06_Write.j1 k1 l0 a1 x6_1 x7_1 (t226.toList != ((rd_T29 l0 x7_1).f1).toList))) else (muslinref06_Write.j1 k1 l0 a1 x6_1 x7_1 true)) = some (r1, r2) := H
            have A6 := Aside0.mk A60
            clear A60
            by_cases c7 : t224 = true
            · subst c7
              have H1 : ((muslinref06_Trim.f k1 ((rd_T29 l0 x7_1).f1)).bind fun t226 => (muslinref06_Write.j1 k1 l0 a1 x6_1 x7_1 (t226.toList != ((rd_T29 l0 x7_1).f1).toList))) = some (r1, r2) := by rw [if_pos rfl] at H; exact H
              clear H
              have H := H1
              clear H1
              replace H := Option.bind_eq_some_iff.mp H
              obtain ⟨t226, A80, H⟩ := H
              replace H : (muslinref06_Write.j1 k1 l0 a1 x6_1 x7_1 (t226.toList != ((rd_T29 l0 x7_1).f1).toList)) = some (r1, r2) := H
              have A8 := Aside0.mk A80
              clear A80
              have H' := Aside0.mk H
              clear H
              have p223 : 0 ≤ (x7_1 : Int) := of_decide_eq_true (by first | (with_reducible assumption) | assumption)
              have q223 : x7_1 < (l0.length : Int) := of_decide_eq_true (by first | (with_reducible assumption) | assumption)
              obtain ⟨ad223, e223, hx223_0, hx223_1⟩ := at_T29 HR0.out x7_1 p223 q223
              cases e223
              replace p223 := eq_true p223
              replace q223 := eq_true q223
              go_wp2_with (first | (go_at_call 41; (with_reducible refine (muslinref06_name.calls k1 ((rd_T29 l0 x7_1).f0) true _ A6.out).mono ?_); rintro e w' ⟨rfl, ⟨nd, rfl⟩⟩; (try first | exact ⟨rfl, _, World.drewN_drewN _ _ _⟩ | exact ⟨rfl, _, Eq.trans (World.drewN_drewN _ _ _) (congrArg (World.drewN _) (Nat.add_assoc _ _ _))⟩); have p225 : 0 ≤ (x7_1 : Int) := of_decide_eq_true (by first | (with_reducible assumption) | assumption); have q225 : x7_1 < (l0.length : Int) := of_decide_eq_true (by first | (with_reducible assumption) | assumption); obtain ⟨ad225, e225, hx225_0, hx225_1⟩ := at_T29 HR0.out x7_1 p225 q225; obtain rfl : ad223 = ad225 := (by injection e225); replace p225 := eq_true p225; replace q225 := eq_true q225) | (go_at_call 36; (with_reducible refine (muslinref06_Trim.calls k1 ((rd_T29 l0 x7_1).f1) t226 _ A8.out).mono ?_); rintro e w' ⟨rfl, ⟨nd, rfl⟩⟩; (try first | exact ⟨rfl, _, World.drewN_drewN _ _ _⟩ | exact ⟨rfl, _, Eq.trans (World.drewN_drewN _ _ _) (congrArg (World.drewN _) (Nat.add_assoc _ _ _))⟩); have p227 : 0 ≤ (x7_1 : Int) := of_decide_eq_true (by first | (with_reducible assumption) | assumption); have q227 : x7_1 < (l0.length : Int) := of_decide_eq_true (by first | (with_reducible assumption) | assumption); obtain ⟨ad227, e227, hx227_0, hx227_1⟩ := at_T29 HR0.out x7_1 p227 q227; obtain rfl : ad223 = ad227 := (by injection e227); replace p227 := eq_true p227; replace q227 := eq_true q227))
              repeat (go_quiet (first | (go_at_call 41; (with_reducible refine (muslinref06_name.calls k1 ((rd_T29 l0 x7_1).f0) true _ A6.out).mono ?_); rintro e w' ⟨rfl, ⟨nd, rfl⟩⟩; (try first | exact ⟨rfl, _, World.drewN_drewN _ _ _⟩ | exact ⟨rfl, _, Eq.trans (World.drewN_drewN _ _ _) (congrArg (World.drewN _) (Nat.add_assoc _ _ _))⟩); have p225 : 0 ≤ (x7_1 : Int) := of_decide_eq_true (by first | (with_reducible assumption) | assumption); have q225 : x7_1 < (l0.length : Int) := of_decide_eq_true (by first | (with_reducible assumption) | assumption); obtain ⟨ad225, e225, hx225_0, hx225_1⟩ := at_T29 HR0.out x7_1 p225 q225; obtain rfl : ad223 = ad225 := (by injection e225); replace p225 := eq_true p225; replace q225 := eq_true q225) | (go_at_call 36; (with_reducible refine (muslinref06_Trim.calls k1 ((rd_T29 l0 x7_1).f1) t226 _ A8.out).mono ?_); rintro e w' ⟨rfl, ⟨nd, rfl⟩⟩; (try first | exact ⟨rfl, _, World.drewN_drewN _ _ _⟩ | exact ⟨rfl, _, Eq.trans (World.drewN_drewN _ _ _) (congrArg (World.drewN _) (Nat.add_assoc _ _ _))⟩); have p227 : 0 ≤ (x7_1 : Int) := of_decide_eq_true (by first | (with_reducible assumption) | assumption); have q227 : x7_1 < (l0.length : Int) := of_decide_eq_true (by first | (with_reducible assumption) | assumption); obtain ⟨ad227, e227, hx227_0, hx227_1⟩ := at_T29 HR0.out x7_1 p227 q227; obtain rfl : ad223 = ad227 := (by injection e227); replace p227 := eq_true p227; replace q227 := eq_true q227)); try go_wp2_with (first | (go_at_call 41; (with_reducible refine (muslinref06_name.calls k1 ((rd_T29 l0 x7_1).f0) true _ A6.out).mono ?_); rintro e w' ⟨rfl, ⟨nd, rfl⟩⟩; (try first | exact ⟨rfl, _, World.drewN_drewN _ _ _⟩ | exact ⟨rfl, _, Eq.trans (World.drewN_drewN _ _ _) (congrArg (World.drewN _) (Nat.add_assoc _ _ _))⟩); have p225 : 0 ≤ (x7_1 : Int) := of_decide_eq_true (by first | (with_reducible assumption) | assumption); have q225 : x7_1 < (l0.length : Int) := of_decide_eq_true (by first | (with_reducible assumption) | assumption); obtain ⟨ad225, e225, hx225_0, hx225_1⟩ := at_T29 HR0.out x7_1 p225 q225; obtain rfl : ad223 = ad225 := (by injection e225); replace p225 := eq_true p225; replace q225 := eq_true q225) | (go_at_call 36; (with_reducible refine (muslinref06_Trim.calls k1 ((rd_T29 l0 x7_1).f1) t226 _ A8.out).mono ?_); rintro e w' ⟨rfl, ⟨nd, rfl⟩⟩; (try first | exact ⟨rfl, _, World.drewN_drewN _ _ _⟩ | exact ⟨rfl, _, Eq.trans (World.drewN_drewN _ _ _) (congrArg (World.drewN _) (Nat.add_assoc _ _ _))⟩); have p227 : 0 ≤ (x7_1 : Int) := of_decide_eq_true (by first | (with_reducible assumption) | assumption); have q227 : x7_1 < (l0.length : Int) := of_decide_eq_true (by first | (with_reducible assumption) | assumption); obtain ⟨ad227, e227, hx227_0, hx227_1⟩ := at_T29 HR0.out x7_1 p227 q227; obtain rfl : ad223 = ad227 := (by injection e227); replace p227 := eq_true p227; replace q227 := eq_true q227)))
              go_meet
              case rel => exact ⟨_, ((t226.toList != ((rd_T29 l0 x7_1).f1).toList)), (by first | rfl | (simp; done) | (simp [*]; done)), H', ⟨by have := HK1.out; first | omega | exact Nat.le_refl _⟩, by repeat (first | exact Drawn0.refl _ | apply Drawn0.step)⟩
            · replace c7 := Bool.eq_false_iff.mpr c7
              subst c7
              have H1 : (muslinref06_Write.j1 k1 l0 a1 x6_1 x7_1 true) = some (r1, r2) := by rw [if_neg (show ¬ (false = true) by decide)] at H; exact H
              clear H
              have H := H1
              clear H1
              have H' := Aside0.mk H
              clear H
              have p223 : 0 ≤ (x7_1 : Int) := of_decide_eq_true (by first | (with_reducible assumption) | assumption)
              have q223 : x7_1 < (l0.length : Int) := of_decide_eq_true (by first | (with_reducible assumption) | assumption)
              obtain ⟨ad223, e223, hx223_0, hx223_1⟩ := at_T29 HR0.out x7_1 p223 q223
              cases e223
              replace p223 := eq_true p223
              replace q223 := eq_true q223
              go_wp2_with (first | (go_at_call 41; (with_reducible refine (muslinref06_name.calls k1 ((rd_T29 l0 x7_1).f0) false _ A6.out).mono ?_); rintro e w' ⟨rfl, ⟨nd, rfl⟩⟩; (try first | exact ⟨rfl, _, World.drewN_drewN _ _ _⟩ | exact ⟨rfl, _, Eq.trans (World.drewN_drewN _ _ _) (congrArg (World.drewN _) (Nat.add_assoc _ _ _))⟩)))
              repeat (go_quiet (first | (go_at_call 41; (with_reducible refine (muslinref06_name.calls k1 ((rd_T29 l0 x7_1).f0) false _ A6.out).mono ?_); rintro e w' ⟨rfl, ⟨nd, rfl⟩⟩; (try first | exact ⟨rfl, _, World.drewN_drewN _ _ _⟩ | exact ⟨rfl, _, Eq.trans (World.drewN_drewN _ _ _) (congrArg (World.drewN _) (Nat.add_assoc _ _ _))⟩))); try go_wp2_with (first | (go_at_call 41; (with_reducible refine (muslinref06_name.calls k1 ((rd_T29 l0 x7_1).f0) false _ A6.out).mono ?_); rintro e w' ⟨rfl, ⟨nd, rfl⟩⟩; (try first | exact ⟨rfl, _, World.drewN_drewN _ _ _⟩ | exact ⟨rfl, _, Eq.trans (World.drewN_drewN _ _ _) (congrArg (World.drewN _) (Nat.add_assoc _ _ _))⟩))))
              go_meet
              case rel => exact ⟨_, (true), (by first | rfl | (simp; done) | (simp [*]; done)), H', ⟨by have := HK1.out; first | omega | exact Nat.le_refl _⟩, by repeat (first | exact Drawn0.refl _ | apply Drawn0.step)⟩
          · rw [if_neg c5] at H
            exact absurd H (by simp)
        case rest =>
          clear HC4
          try clear c2
          try clear p2
          try clear q2
          try clear hx2
          try clear c3
          try clear c3b0
          try clear c5
          try clear c5b0
          try clear c7
          try clear hx223_0
          try clear hx223_1
          try clear hx225_0
          try clear hx225_1
          try clear hx227_0
          try clear hx227_1
          try clear p2
          try clear p223
          try clear p225
          try clear p227
          try clear q223
          try clear q225
          try clear q227
          obtain ⟨kq, x35_3, rfl, HA, HJ3, ⟨mc3, rfl⟩⟩ := hcut
          cases kq with
          | zero => exact absurd HA.out (by simp [muslinref06_Write.j1])
          | succ kj3 =>
            have H := HA.out
            clear HA
            simp only [muslinref06_Write.j1] at H
            by_cases c9 : x35_3 = true
            · subst c9
              have H1 : (some ((⟨#[]⟩ : ByteArray), 1)) = some (r1, r2) := by rw [if_pos rfl] at H; exact H
              clear H
              have H := H1
              clear H1
              simp only [Option.some.injEq, Prod.mk.injEq] at H
              obtain ⟨rfl, rfl⟩ := H
              go_wp2
              repeat (go_quiet (fail); try go_wp2)
              go_ret2
              exact ⟨by first | rfl | (simp; done) | (simp [*]; done), by repeat (first | exact Drawn0.refl _ | apply Drawn0.step)⟩
            · replace c9 := Bool.eq_false_iff.mpr c9
              subst c9
              have H1 : (muslinref06_Write.l1 kj3 l0 a1 x6_1 x7_1 0) = some (r1, r2) := by rw [if_neg (show ¬ (false = true) by decide)] at H; exact H
              clear H
              have H := H1
              clear H1
              have H' := Aside0.mk H
              clear H
              go_wp2
              repeat (go_quiet (fail); try go_wp2)
              go_loopg [8] kj3 (fun kq v8 w' => ∃ (x8_3 : Int), v8 = .int .i64 x8_3 ∧ Aside0 (muslinref06_Write.l1 kq l0 a1 x6_1 x7_1 x8_3 = some (r1, r2)) ∧ Aside0 (kq ≤ kj3) ∧ Drawn0 w w')
              case atStart => exact ⟨(0), (by first | rfl | (simp; done) | (simp [*]; done)), H', ⟨Nat.le_refl _⟩, by repeat (first | exact Drawn0.refl _ | apply Drawn0.step)⟩
              case round =>
                clear H'
                try clear c2
                try clear p2
                try clear q2
                try clear hx2
                try clear c3
                try clear c3b0
                try clear c5
                try clear c5b0
                try clear c7
                try clear c9
                try clear hx223_0
                try clear hx223_1
                try clear hx225_0
                try clear hx225_1
                try clear hx227_0
                try clear hx227_1
                try clear p2
                try clear p223
                try clear p225
                try clear p227
                try clear q2
                try clear q223
                try clear q225
                try clear q227
                obtain ⟨x8_3, rfl, HA, HK3, ⟨m3, rfl⟩⟩ := hrel
                cases gk with
                | zero => exact absurd HA.out (by simp [muslinref06_Write.l1])
                | succ k3 =>
                  have H := HA.out
                  clear HA
                  simp only [muslinref06_Write.l1] at H
                  by_cases c10 : 0 ≤ x7_1
                  · rw [if_pos c10] at H
                    have c10b0 : decide (0 ≤ x7_1) = true := decide_eq_true c10
                    clear c10
                    by_cases c11 : x7_1 < (l0.length : Int)
                    · rw [if_pos c11] at H
                      have c11b0 : decide (x7_1 < (l0.length : Int)) = true := decide_eq_true c11
                      clear c11
                      by_cases c12 : x8_3 < (((rd_T29 l0 x7_1).f1).size : Int)
                      · rw [if_pos c12] at H
                        have c12b0 : decide (x8_3 < (((rd_T29 l0 x7_1).f1).size : Int)) = true := decide_eq_true c12
                        clear c12
                        by_cases c13 : 0 ≤ x8_3
                        · rw [if_pos c13] at H
                          have c13b0 : decide (0 ≤ x8_3) = true := decide_eq_true c13
                          clear c13
                          by_cases c15 : (bt ((rd_T29 l0 x7_1).f1) x8_3) = 10
                          · rw [if_pos c15] at H
                            have c15b0 : ((bt ((rd_T29 l0 x7_1).f1) x8_3) == 10) = true := beq_iff_eq.mpr c15
                            have c15b1 : ((bt ((rd_T29 l0 x7_1).f1) x8_3) != 10) = false := bne_eq_false_iff_eq.mpr c15
                            clear c15
                            simp only [Option.some.injEq, Prod.mk.injEq] at H
                            obtain ⟨rfl, rfl⟩ := H
                            have p228 : 0 ≤ (x7_1 : Int) := of_decide_eq_true (by first | (with_reducible assumption) | assumption)
                            have q228 : x7_1 < (l0.length : Int) := of_decide_eq_true (by first | (with_reducible assumption) | assumption)
                            obtain ⟨ad228, e228, hx228_0, hx228_1⟩ := at_T29 HR0.out x7_1 p228 q228
                            cases e228
                            replace p228 := eq_true p228
                            replace q228 := eq_true q228
                            have p229 : 0 ≤ (x7_1 : Int) := of_decide_eq_true (by first | (with_reducible assumption) | assumption)
                            have q229 : x7_1 < (l0.length : Int) := of_decide_eq_true (by first | (with_reducible assumption) | assumption)
                            obtain ⟨ad229, e229, hx229_0, hx229_1⟩ := at_T29 HR0.out x7_1 p229 q229
                            obtain rfl : ad228 = ad229 := (by injection e229)
                            replace p229 := eq_true p229
                            replace q229 := eq_true q229
                            have p14 : 0 ≤ (x8_3 : Int) := of_decide_eq_true (by first | (with_reducible assumption) | assumption)
                            have q14 : x8_3 < (((rd_T29 l0 x7_1).f1).size : Int) := of_decide_eq_true (by first | (with_reducible assumption) | assumption)
                            have hx14 := bt_at ((rd_T29 l0 x7_1).f1) x8_3
                            replace p14 := eq_true p14
                            replace q14 := eq_true q14
                            go_wp2
                            repeat (go_quiet (fail); try go_wp2)
                            go_ret2
                            exact ⟨by first | rfl | (simp; done) | (simp [*]; done), by repeat (first | exact Drawn0.refl _ | apply Drawn0.step)⟩
                          · rw [if_neg c15] at H
                            have c15b0 : ((bt ((rd_T29 l0 x7_1).f1) x8_3) == 10) = false := beq_eq_false_iff_ne.mpr c15
                            have c15b1 : ((bt ((rd_T29 l0 x7_1).f1) x8_3) != 10) = true := bne_iff_ne.mpr c15
                            by_cases c17 : (bt ((rd_T29 l0 x7_1).f1) x8_3) = 13
                            · rw [if_pos c17] at H
                              have c17b0 : ((bt ((rd_T29 l0 x7_1).f1) x8_3) == 13) = true := beq_iff_eq.mpr c17
                              have c17b1 : ((bt ((rd_T29 l0 x7_1).f1) x8_3) != 13) = false := bne_eq_false_iff_eq.mpr c17
                              clear c17
                              simp only [Option.some.injEq, Prod.mk.injEq] at H
                              obtain ⟨rfl, rfl⟩ := H
                              have p228 : 0 ≤ (x7_1 : Int) := of_decide_eq_true (by first | (with_reducible assumption) | assumption)
                              have q228 : x7_1 < (l0.length : Int) := of_decide_eq_true (by first | (with_reducible assumption) | assumption)
                              obtain ⟨ad228, e228, hx228_0, hx228_1⟩ := at_T29 HR0.out x7_1 p228 q228
                              cases e228
                              replace p228 := eq_true p228
                              replace q228 := eq_true q228
                              have p229 : 0 ≤ (x7_1 : Int) := of_decide_eq_true (by first | (with_reducible assumption) | assumption)
                              have q229 : x7_1 < (l0.length : Int) := of_decide_eq_true (by first | (with_reducible assumption) | assumption)
                              obtain ⟨ad229, e229, hx229_0, hx229_1⟩ := at_T29 HR0.out x7_1 p229 q229
                              obtain rfl : ad228 = ad229 := (by injection e229)
                              replace p229 := eq_true p229
                              replace q229 := eq_true q229
                              have p14 : 0 ≤ (x8_3 : Int) := of_decide_eq_true (by first | (with_reducible assumption) | assumption)
                              have q14 : x8_3 < (((rd_T29 l0 x7_1).f1).size : Int) := of_decide_eq_true (by first | (with_reducible assumption) | assumption)
                              have hx14 := bt_at ((rd_T29 l0 x7_1).f1) x8_3
                              replace p14 := eq_true p14
                              replace q14 := eq_true q14
                              have p230 : 0 ≤ (x7_1 : Int) := of_decide_eq_true (by first | (with_reducible assumption) | assumption)
                              have q230 : x7_1 < (l0.length : Int) := of_decide_eq_true (by first | (with_reducible assumption) | assumption)
                              obtain ⟨ad230, e230, hx230_0, hx230_1⟩ := at_T29 HR0.out x7_1 p230 q230
                              obtain rfl : ad228 = ad230 := (by injection e230)
                              replace p230 := eq_true p230
                              replace q230 := eq_true q230
                              have p16 : 0 ≤ (x8_3 : Int) := of_decide_eq_true (by first | (with_reducible assumption) | assumption)
                              have q16 : x8_3 < (((rd_T29 l0 x7_1).f1).size : Int) := of_decide_eq_true (by first | (with_reducible assumption) | assumption)
                              have hx16 := bt_at ((rd_T29 l0 x7_1).f1) x8_3
                              replace p16 := eq_true p16
                              replace q16 := eq_true q16
                              go_wp2
                              repeat (go_quiet (fail); try go_wp2)
                              go_ret2
                              exact ⟨by first | rfl | (simp; done) | (simp [*]; done), by repeat (first | exact Drawn0.refl _ | apply Drawn0.step)⟩
                            · rw [if_neg c17] at H
                              have c17b0 : ((bt ((rd_T29 l0 x7_1).f1) x8_3) == 13) = false := beq_eq_false_iff_ne.mpr c17
                              have c17b1 : ((bt ((rd_T29 l0 x7_1).f1) x8_3) != 13) = true := bne_iff_ne.mpr c17
                              have H' := Aside0.mk H
                              clear H
                              have p228 : 0 ≤ (x7_1 : Int) := of_decide_eq_true (by first | (with_reducible assumption) | assumption)
                              have q228 : x7_1 < (l0.length : Int) := of_decide_eq_true (by first | (with_reducible assumption) | assumption)
                              obtain ⟨ad228, e228, hx228_0, hx228_1⟩ := at_T29 HR0.out x7_1 p228 q228
                              cases e228
                              replace p228 := eq_true p228
                              replace q228 := eq_true q228
                              have p229 : 0 ≤ (x7_1 : Int) := of_decide_eq_true (by first | (with_reducible assumption) | assumption)
                              have q229 : x7_1 < (l0.length : Int) := of_decide_eq_true (by first | (with_reducible assumption) | assumption)
                              obtain ⟨ad229, e229, hx229_0, hx229_1⟩ := at_T29 HR0.out x7_1 p229 q229
                              obtain rfl : ad228 = ad229 := (by injection e229)
                              replace p229 := eq_true p229
                              replace q229 := eq_true q229
                              have p14 : 0 ≤ (x8_3 : Int) := of_decide_eq_true (by first | (with_reducible assumption) | assumption)
                              have q14 : x8_3 < (((rd_T29 l0 x7_1).f1).size : Int) := of_decide_eq_true (by first | (with_reducible assumption) | assumption)
                              have hx14 := bt_at ((rd_T29 l0 x7_1).f1) x8_3
                              replace p14 := eq_true p14
                              replace q14 := eq_true q14
                              have p230 : 0 ≤ (x7_1 : Int) := of_decide_eq_true (by first | (with_reducible assumption) | assumption)
                              have q230 : x7_1 < (l0.length : Int) := of_decide_eq_true (by first | (with_reducible assumption) | assumption)
                              obtain ⟨ad230, e230, hx230_0, hx230_1⟩ := at_T29 HR0.out x7_1 p230 q230
                              obtain rfl : ad228 = ad230 := (by injection e230)
                              replace p230 := eq_true p230
                              replace q230 := eq_true q230
                              have p16 : 0 ≤ (x8_3 : Int) := of_decide_eq_true (by first | (with_reducible assumption) | assumption)
                              have q16 : x8_3 < (((rd_T29 l0 x7_1).f1).size : Int) := of_decide_eq_true (by first | (with_reducible assumption) | assumption)
                              have hx16 := bt_at ((rd_T29 l0 x7_1).f1) x8_3
                              replace p16 := eq_true p16
                              replace q16 := eq_true q16
                              go_wp2
                              repeat (go_quiet (fail); try go_wp2)
                              go_roundg k3
                              case measure => have := HK1.out; have := HJ3.out; have := HK3.out; omega
                              case rel => exact ⟨(wrap64 (x8_3 + 1)), (by first | rfl | (simp; done) | (simp [*]; done)), H', ⟨by have := HK1.out; have := HJ3.out; have := HK3.out; omega⟩, by repeat (first | exact Drawn0.refl _ | apply Drawn0.step)⟩
                        · rw [if_neg c13] at H
                          exact absurd H (by simp)
                      · rw [if_neg c12] at H
                        have c12b0 : decide (x8_3 < (((rd_T29 l0 x7_1).f1).size : Int)) = false := decide_eq_false c12
                        clear c12
                        by_cases c18 : x6_1.size + ((rd_T29 l0 x7_1).f0).size ≤ 9223372036854775807
                        · rw [if_pos c18] at H
                          have c18b0 := eq_true c18
                          have c18b1 : decide (x6_1.size + ((rd_T29 l0 x7_1).f0).size ≤ 9223372036854775807) = true := decide_eq_true c18
                          try have c18b2 : (9223372036854775807 < x6_1.size + ((rd_T29 l0 x7_1).f0).size) = False := eq_false (Nat.not_lt.2 c18)
                          by_cases c19 : (x6_1 ++ ((rd_T29 l0 x7_1).f0)).size + 2 ≤ 9223372036854775807
                          · rw [if_pos c19] at H
                            have c19b0 := eq_true c19
                            have c19b1 : decide ((x6_1 ++ ((rd_T29 l0 x7_1).f0)).size + 2 ≤ 9223372036854775807) = true := decide_eq_true c19
                            have c19n := c19
                            simp only [ByteArray.size_append, sz_2] at c19n
                            have c19nb := eq_true c19n
                            have c19nc := eq_false (Nat.not_lt.2 c19n)
                            try have c19b2 : (9223372036854775807 < (x6_1 ++ ((rd_T29 l0 x7_1).f0)).size + 2) = False := eq_false (Nat.not_lt.2 c19)
                            by_cases c20 : ((x6_1 ++ ((rd_T29 l0 x7_1).f0)) ++ (⟨#[58, 32]⟩ : ByteArray)).size + ((rd_T29 l0 x7_1).f1).size ≤ 9223372036854775807
                            · rw [if_pos c20] at H
                              have c20b0 := eq_true c20
                              have c20b1 : decide (((x6_1 ++ ((rd_T29 l0 x7_1).f0)) ++ (⟨#[58, 32]⟩ : ByteArray)).size + ((rd_T29 l0 x7_1).f1).size ≤ 9223372036854775807) = true := decide_eq_true c20
                              have c20n := c20
                              simp only [ByteArray.size_append, sz_2] at c20n
                              have c20nb := eq_true c20n
                              have c20nc := eq_false (Nat.not_lt.2 c20n)
                              try have c20b2 : (9223372036854775807 < ((x6_1 ++ ((rd_T29 l0 x7_1).f0)) ++ (⟨#[58, 32]⟩ : ByteArray)).size + ((rd_T29 l0 x7_1).f1).size) = False := eq_false (Nat.not_lt.2 c20)
                              by_cases c21 : (((x6_1 ++ ((rd_T29 l0 x7_1).f0)) ++ (⟨#[58, 32]⟩ : ByteArray)) ++ ((rd_T29 l0 x7_1).f1)).size + 2 ≤ 9223372036854775807
                              · rw [if_pos c21] at H
                                have c21b0 := eq_true c21
                                have c21b1 : decide ((((x6_1 ++ ((rd_T29 l0 x7_1).f0)) ++ (⟨#[58, 32]⟩ : ByteArray)) ++ ((rd_T29 l0 x7_1).f1)).size + 2 ≤ 9223372036854775807) = true := decide_eq_true c21
                                have c21n := c21
                                simp only [ByteArray.size_append, sz_2] at c21n
                                have c21nb := eq_true c21n
                                have c21nc := eq_false (Nat.not_lt.2 c21n)
                                try have c21b2 : (9223372036854775807 < (((x6_1 ++ ((rd_T29 l0 x7_1).f0)) ++ (⟨#[58, 32]⟩ : ByteArray)) ++ ((rd_T29 l0 x7_1).f1)).size + 2) = False := eq_false (Nat.not_lt.2 c21)
                                have H' := Aside0.mk H
                                clear H
                                have p228 : 0 ≤ (x7_1 : Int) := of_decide_eq_true (by first | (with_reducible assumption) | assumption)
                                have q228 : x7_1 < (l0.length : Int) := of_decide_eq_true (by first | (with_reducible assumption) | assumption)
                                obtain ⟨ad228, e228, hx228_0, hx228_1⟩ := at_T29 HR0.out x7_1 p228 q228
                                cases e228
                                replace p228 := eq_true p228
                                replace q228 := eq_true q228
                                have p231 : 0 ≤ (x7_1 : Int) := of_decide_eq_true (by first | (with_reducible assumption) | assumption)
                                have q231 : x7_1 < (l0.length : Int) := of_decide_eq_true (by first | (with_reducible assumption) | assumption)
                                obtain ⟨ad231, e231, hx231_0, hx231_1⟩ := at_T29 HR0.out x7_1 p231 q231
                                obtain rfl : ad228 = ad231 := (by injection e231)
                                replace p231 := eq_true p231
                                replace q231 := eq_true q231
                                have p232 : 0 ≤ (x7_1 : Int) := of_decide_eq_true (by first | (with_reducible assumption) | assumption)
                                have q232 : x7_1 < (l0.length : Int) := of_decide_eq_true (by first | (with_reducible assumption) | assumption)
                                obtain ⟨ad232, e232, hx232_0, hx232_1⟩ := at_T29 HR0.out x7_1 p232 q232
                                obtain rfl : ad228 = ad232 := (by injection e232)
                                replace p232 := eq_true p232
                                replace q232 := eq_true q232
                                go_wp2
                                repeat (go_quiet (fail); try go_wp2)
                                go_roundg k3
                                case measure => have := HK1.out; have := HJ3.out; have := HK3.out; omega
                                case rel => exact ⟨((((x6_1 ++ ((rd_T29 l0 x7_1).f0)) ++ (⟨#[58, 32]⟩ : ByteArray)) ++ ((rd_T29 l0 x7_1).f1)) ++ (⟨#[13, 10]⟩ : ByteArray)), (wrap64 (x7_1 + 1)), (by first | rfl | (simp; done) | (simp [*]; done)), (by first | rfl | (simp; done) | (simp [*]; done)), H', ⟨by have := HK1.out; have := HJ3.out; have := HK3.out; omega⟩, by repeat (first | exact Drawn0.refl _ | apply Drawn0.step)⟩
                              · rw [if_neg c21] at H
                                exact absurd H (by simp)
                            · rw [if_neg c20] at H
                              exact absurd H (by simp)
                          · rw [if_neg c19] at H
                            exact absurd H (by simp)
                        · rw [if_neg c18] at H
                          exact absurd H (by simp)
                    · rw [if_neg c11] at H
                      exact absurd H (by simp)
                  · rw [if_neg c10] at H
                    exact absurd H (by simp)
      · rw [if_neg c3] at H
        have c3b0 : decide (x7_1 < (l0.length : Int)) = false := decide_eq_false c3
        clear c3
        by_cases c22 : (l0.length : Int) > 500
        · rw [if_pos c22] at H
          have c22b0 : decide (500 < (l0.length : Int)) = true := decide_eq_true c22
          have c22b1 : decide (500 < l0.length) = true := decide_eq_true (by omega)
          clear c22
          simp only [Option.some.injEq, Prod.mk.injEq] at H
          obtain ⟨rfl, rfl⟩ := H
          go_wp2
          repeat (go_quiet (fail); try go_wp2)
          go_ret2
          exact ⟨by first | rfl | (simp; done) | (simp [*]; done), by repeat (first | exact Drawn0.refl _ | apply Drawn0.step)⟩
        · rw [if_neg c22] at H
          have c22b0 : decide (500 < (l0.length : Int)) = false := decide_eq_false c22
          have c22b1 : decide (500 < l0.length) = false := decide_eq_false (by omega)
          clear c22
          by_cases c23 : x6_1.size + 2 ≤ 9223372036854775807
          · rw [if_pos c23] at H
            have c23b0 := eq_true c23
            have c23b1 : decide (x6_1.size + 2 ≤ 9223372036854775807) = true := decide_eq_true c23
            try have c23b2 : (9223372036854775807 < x6_1.size + 2) = False := eq_false (Nat.not_lt.2 c23)
            by_cases c24 : (x6_1 ++ (⟨#[13, 10]⟩ : ByteArray)).size + a1.size ≤ 9223372036854775807
            · rw [if_pos c24] at H
              have c24b0 := eq_true c24
              have c24b1 : decide ((x6_1 ++ (⟨#[13, 10]⟩ : ByteArray)).size + a1.size ≤ 9223372036854775807) = true := decide_eq_true c24
              have c24n := c24
              simp only [ByteArray.size_append, sz_2] at c24n
              have c24nb := eq_true c24n
              have c24nc := eq_false (Nat.not_lt.2 c24n)
              try have c24b2 : (9223372036854775807 < (x6_1 ++ (⟨#[13, 10]⟩ : ByteArray)).size + a1.size) = False := eq_false (Nat.not_lt.2 c24)
              simp only [Option.some.injEq, Prod.mk.injEq] at H
              obtain ⟨rfl, rfl⟩ := H
              go_wp2
              repeat (go_quiet (fail); try go_wp2)
              go_ret2
              exact ⟨by first | rfl | (simp; done) | (simp [*]; done), by repeat (first | exact Drawn0.refl _ | apply Drawn0.step)⟩
            · rw [if_neg c24] at H
              exact absurd H (by simp)
          · rw [if_neg c23] at H
            exact absurd H (by simp)

/-! ### muslinlaw06_LinesWrites: function 6 -/
def muslinlaw06_LinesWrites.j0 : Nat → List (S29) → ByteArray → Bool → Option (Bool)
  | 0, _, _, _ => none
  | k + 1, x0, x1, x16 => if x16 = true then ((muslinlaw06_live.f k).bind fun t235 => (some t235)) else ((lines_Write.f x0 x1).bind fun bt236 => ((muslinref06_Write.f k x0 x1).bind fun bt238 => (if bt236.1.toList = bt238.1.toList then (if bt236.2 = bt238.2 then ((muslinlaw06_live.f k).bind fun t240 => (some t240)) else (some false)) else (some false))))
def muslinlaw06_LinesWrites.f (k : Nat) (l0 : List (S29)) (a1 : ByteArray) : Option (Bool) := (muslinlaw06_few.f k l0).bind fun t233 => (if t233 = true then ((muslinlaw06_short.f a1).bind fun t234 => (muslinlaw06_LinesWrites.j0 k l0 a1 (!t234))) else (muslinlaw06_LinesWrites.j0 k l0 a1 true))
theorem muslinlaw06_LinesWrites.mono_l : ∀ k, (∀ y0 y1 y2, LeO (muslinlaw06_LinesWrites.j0 k y0 y1 y2) (muslinlaw06_LinesWrites.j0 (k + 1) y0 y1 y2))
  | 0 => fun _ _ _ r h => by simp [muslinlaw06_LinesWrites.j0] at h
  | k + 1 => by
    have ih0 := muslinlaw06_LinesWrites.mono_l k
    · intro y0 y1 y2
      unfold muslinlaw06_LinesWrites.j0
      repeat' first
      | (with_reducible exact ih0 _ _ _)
      | (with_reducible exact muslinlaw06_few.mono _ _)
      | (with_reducible exact muslinlaw06_live.mono _)
      | (with_reducible exact muslinref06_Write.mono _ _ _)
      | (with_reducible exact LeO.refl _)
      | (with_reducible exact LeO.none _)
      | (with_reducible refine LeO.ite ?_ ?_)
      | (with_reducible refine LeO.bind ?_ (fun _ => ?_))
      | exact ih0 _ _ _
      | exact muslinlaw06_few.mono _ _
      | exact muslinlaw06_live.mono _
      | exact muslinref06_Write.mono _ _ _
      | exact LeO.none _
      | refine LeO.ite ?_ ?_
      | refine LeO.bind ?_ (fun _ => ?_)
theorem muslinlaw06_LinesWrites.mono : ∀ a0 a1 k, LeO (muslinlaw06_LinesWrites.f k a0 a1) (muslinlaw06_LinesWrites.f (k + 1) a0 a1) := by
  intro a0 a1 k
  have ih0 := muslinlaw06_LinesWrites.mono_l k
  unfold muslinlaw06_LinesWrites.f
  repeat' first
      | (with_reducible exact ih0 _ _ _)
      | (with_reducible exact muslinlaw06_few.mono _ _)
      | (with_reducible exact muslinlaw06_live.mono _)
      | (with_reducible exact muslinref06_Write.mono _ _ _)
      | (with_reducible exact LeO.refl _)
      | (with_reducible exact LeO.none _)
      | (with_reducible refine LeO.ite ?_ ?_)
      | (with_reducible refine LeO.bind ?_ (fun _ => ?_))
      | exact ih0 _ _ _
      | exact muslinlaw06_few.mono _ _
      | exact muslinlaw06_live.mono _
      | exact muslinref06_Write.mono _ _ _
      | exact LeO.none _
      | refine LeO.ite ?_ ?_
      | refine LeO.bind ?_ (fun _ => ?_)
set_option maxHeartbeats 8000000 in
set_option maxRecDepth 100000 in
theorem muslinlaw06_LinesWrites.calls (k : Nat) (A0 : Option Addr) (c0 : Nat) (l0 : List (S29)) (a1 : ByteArray) (r : Bool) (w : World) (hr0 : Kd.C k29 w A0 l0.length l0) (hc0 : l0.length ≤ c0) (h : muslinlaw06_LinesWrites.f k l0 a1 = some r) :
    Calls Tryd.prog 6 #[.slice A0 l0.length c0, .string a1] w fun e w' => e = .returned (.bool r) ∧ Below w.heap.size w w' := by
  have HR0 := Aside0.mk hr0
  have HC0 := Aside0.mk hc0
  clear hr0 hc0
  have HB := Aside0.mk (Below.refl w.heap.size w)
  have H : ((muslinlaw06_few.f k l0).bind fun t233 => (if t233 = true then ((muslinlaw06_short.f a1).bind fun t234 => (muslinlaw06_LinesWrites.j0 k l0 a1 (!t234))) else (muslinlaw06_LinesWrites.j0 k l0 a1 true))) = some r := h
  clear h
  have HC3 := Aside0.mk H
  clear H
  go_enter Tryd.func6, Tryd.ntmps6
  go_upto_region 1 with (fail)
  go_cut [16] (fun v16 wc => ∃ (kq : Nat) (x16_2 : Bool), v16 = .bool x16_2 ∧ Aside0 (muslinlaw06_LinesWrites.j0 kq l0 a1 x16_2 = some r) ∧ Aside0 (kq ≤ k) ∧ Aside0 (Below w.heap.size w wc))
  case first =>
    have H := HC3.out
    clear HC3
    replace H := Option.bind_eq_some_iff.mp H
    obtain ⟨t233, A40, H⟩ := H
    replace H : (if t233 = true then ((muslinlaw06_short.f a1).bind fun t234 => (muslinlaw06_LinesWrites.j0 k l0 a1 (!t234))) else (muslinlaw06_LinesWrites.j0 k l0 a1 true)) = some r := H
    have A4 := Aside0.mk A40
    clear A40
    by_cases c5 : t233 = true
    · subst c5
      have H1 : ((muslinlaw06_short.f a1).bind fun t234 => (muslinlaw06_LinesWrites.j0 k l0 a1 (!t234))) = some r := by rw [if_pos rfl] at H; exact H
      clear H
      have H := H1
      clear H1
      replace H := Option.bind_eq_some_iff.mp H
      obtain ⟨t234, A60, H⟩ := H
      replace H : (muslinlaw06_LinesWrites.j0 k l0 a1 (!t234)) = some r := H
      have A6 := Aside0.mk A60
      clear A60
      have H' := Aside0.mk H
      clear H
      go_wp2_with (first | ((with_reducible refine gate_callee (f := 13) rfl ?_); refine goesL_ (some 10) rfl rfl Tryd.func13 (by kernel_rfl) rfl #[.slice A0 l0.length c0] rfl (by (try simp only [List.map_toArray, List.map_cons, List.map_nil]); first | done | rfl | (simp only [List.length_drop, List.length_take]; rfl)) ?_; (with_reducible refine (muslinlaw06_few.calls k _ _ l0 true _ ?side1 ?side2 A4.out).mono ?_); (case side1 => repeat (first | exact (Kd.C_below HR0.out HB.out) | (with_reducible refine Kd.C_alloc ?_ _) | (with_reducible refine Kd.C_drewN ?_ _) | (with_reducible refine Kd.C_drew ?_))); (case side2 => exact HC0.out); rintro e w' ⟨rfl, ⟨nd, rfl⟩⟩; refine ⟨_, rfl, ?_⟩) | (go_at_call 9; (with_reducible refine (muslinlaw06_short.calls a1 t234 _ A6.out).mono ?_); rintro e w' ⟨rfl, ⟨nd, rfl⟩⟩))
      go_meet
      case rel => exact ⟨_, (!t234), (by first | rfl | (simp; done) | (simp [*]; done)), H', ⟨by first | omega | exact Nat.le_refl _⟩, ⟨by repeat (first | (with_reducible first | exact HB.out | apply below_alloc | apply pw_below_drewN | apply below_drew1) | exact HB.out)⟩⟩
    · replace c5 := Bool.eq_false_iff.mpr c5
      subst c5
      have H1 : (muslinlaw06_LinesWrites.j0 k l0 a1 true) = some r := by rw [if_neg (show ¬ (false = true) by decide)] at H; exact H
      clear H
      have H := H1
      clear H1
      have H' := Aside0.mk H
      clear H
      go_wp2_with (first | ((with_reducible refine gate_callee (f := 13) rfl ?_); refine goesL_ (some 10) rfl rfl Tryd.func13 (by kernel_rfl) rfl #[.slice A0 l0.length c0] rfl (by (try simp only [List.map_toArray, List.map_cons, List.map_nil]); first | done | rfl | (simp only [List.length_drop, List.length_take]; rfl)) ?_; (with_reducible refine (muslinlaw06_few.calls k _ _ l0 false _ ?side1 ?side2 A4.out).mono ?_); (case side1 => repeat (first | exact (Kd.C_below HR0.out HB.out) | (with_reducible refine Kd.C_alloc ?_ _) | (with_reducible refine Kd.C_drewN ?_ _) | (with_reducible refine Kd.C_drew ?_))); (case side2 => exact HC0.out); rintro e w' ⟨rfl, ⟨nd, rfl⟩⟩; refine ⟨_, rfl, ?_⟩))
      go_meet
      case rel => exact ⟨_, (true), (by first | rfl | (simp; done) | (simp [*]; done)), H', ⟨by first | omega | exact Nat.le_refl _⟩, ⟨by repeat (first | (with_reducible first | exact HB.out | apply below_alloc | apply pw_below_drewN | apply below_drew1) | exact HB.out)⟩⟩
  case rest =>
    clear HC3
    try clear c1
    try clear p2
    try clear c5
    try clear c6
    obtain ⟨kq, x16_2, rfl, HA, HJ2, HB⟩ := hcut
    cases kq with
    | zero => exact absurd HA.out (by simp [muslinlaw06_LinesWrites.j0])
    | succ kj2 =>
      have H := HA.out
      clear HA
      simp only [muslinlaw06_LinesWrites.j0] at H
      by_cases c7 : x16_2 = true
      · subst c7
        have H1 : ((muslinlaw06_live.f kj2).bind fun t235 => (some t235)) = some r := by rw [if_pos rfl] at H; exact H
        clear H
        have H := H1
        clear H1
        replace H := Option.bind_eq_some_iff.mp H
        obtain ⟨t235, A80, H⟩ := H
        replace H : (some t235) = some r := H
        have A8 := Aside0.mk A80
        clear A80
        obtain rfl := Option.some.inj H
        go_wp2_with (first | ((with_reducible refine gate_callee (f := 10) rfl ?_); refine goesL_ (some 17) rfl rfl Tryd.func10 (by kernel_rfl) rfl #[] rfl (by (try simp only [List.map_toArray, List.map_cons, List.map_nil]); first | done | rfl | (simp only [List.length_drop, List.length_take]; rfl)) ?_; (with_reducible refine (muslinlaw06_live.calls kj2  t235 _ A8.out).mono ?_); rintro e w9 ⟨rfl, hb⟩; refine ⟨_, rfl, ?_⟩; have n0_ := Aside0.mk (below_step (by repeat (first | (with_reducible first | exact HB.out | apply below_alloc | apply pw_below_drewN | apply below_drew1) | exact HB.out)) hb); clear HB; have HB := n0_; clear n0_; (try clear hb); (try clear hb2); (try clear hk); (try clear hi)))
        go_ret
        exact ⟨by first | rfl | (simp [errW_none, errW_some] <;> rfl) | (simp [*, errW_none, errW_some] <;> rfl), by repeat (first | (with_reducible first | exact HB.out | apply below_alloc | apply pw_below_drewN | apply below_drew1) | exact HB.out)⟩
      · replace c7 := Bool.eq_false_iff.mpr c7
        subst c7
        have H1 : ((lines_Write.f l0 a1).bind fun bt236 => ((muslinref06_Write.f kj2 l0 a1).bind fun bt238 => (if bt236.1.toList = bt238.1.toList then (if bt236.2 = bt238.2 then ((muslinlaw06_live.f kj2).bind fun t240 => (some t240)) else (some false)) else (some false)))) = some r := by rw [if_neg (show ¬ (false = true) by decide)] at H; exact H
        clear H
        have H := H1
        clear H1
        replace H := Option.bind_eq_some_iff.mp H
        obtain ⟨⟨t236, t237⟩, A100, H⟩ := H
        replace H : ((muslinref06_Write.f kj2 l0 a1).bind fun bt238 => (if t236.toList = bt238.1.toList then (if t237 = bt238.2 then ((muslinlaw06_live.f kj2).bind fun t240 => (some t240)) else (some false)) else (some false))) = some r := H
        have A10 := Aside0.mk A100
        clear A100
        replace H := Option.bind_eq_some_iff.mp H
        obtain ⟨⟨t238, t239⟩, A110, H⟩ := H
        replace H : (if t236.toList = t238.toList then (if t237 = t239 then ((muslinlaw06_live.f kj2).bind fun t240 => (some t240)) else (some false)) else (some false)) = some r := H
        have A11 := Aside0.mk A110
        clear A110
        by_cases c12 : t236.toList = t238.toList
        · rw [if_pos c12] at H
          have c12b0 : (t236.toList == t238.toList) = true := beq_iff_eq.mpr c12
          have c12b1 : (t236.toList != t238.toList) = false := bne_eq_false_iff_eq.mpr c12
          clear c12
          by_cases c13 : t237 = t239
          · rw [if_pos c13] at H
            have c13b0 : (t237 == t239) = true := beq_iff_eq.mpr c13
            have c13b1 : (t237 != t239) = false := bne_eq_false_iff_eq.mpr c13
            clear c13
            replace H := Option.bind_eq_some_iff.mp H
            obtain ⟨t240, A140, H⟩ := H
            replace H : (some t240) = some r := H
            have A14 := Aside0.mk A140
            clear A140
            obtain rfl := Option.some.inj H
            go_wp2_with (first | ((with_reducible refine gate_callee (f := 20) rfl ?_); refine goesL_ (some 21) rfl rfl Tryd.func20 (by kernel_rfl) rfl #[.slice A0 l0.length c0, .string a1] rfl (by (try simp only [List.map_toArray, List.map_cons, List.map_nil]); first | done | rfl | (simp only [List.length_drop, List.length_take]; rfl)) ?_; (with_reducible refine (lines_Write.calls _ _ l0 a1 t236 t237 _ ?side1 ?side2 A10.out).mono ?_); (case side1 => repeat (first | exact (Kd.C_below HR0.out HB.out) | (with_reducible refine Kd.C_alloc ?_ _) | (with_reducible refine Kd.C_drewN ?_ _) | (with_reducible refine Kd.C_drew ?_))); (case side2 => exact HC0.out); rintro e w15 ⟨rfl, hb⟩; refine ⟨_, rfl, ?_⟩; have n0_ := Aside0.mk (below_step (by repeat (first | (with_reducible first | exact HB.out | apply below_alloc | apply pw_below_drewN | apply below_drew1) | exact HB.out)) hb); clear HB; have HB := n0_; clear n0_; (try clear hb); (try clear hb2); (try clear hk); (try clear hi)) | ((with_reducible refine gate_callee (f := 21) rfl ?_); refine goesL_ (some 27) rfl rfl Tryd.func21 (by kernel_rfl) rfl #[.slice A0 l0.length c0, .string a1] rfl (by (try simp only [List.map_toArray, List.map_cons, List.map_nil]); first | done | rfl | (simp only [List.length_drop, List.length_take]; rfl)) ?_; (with_reducible refine (muslinref06_Write.calls kj2 _ _ l0 a1 t238 t239 _ ?side1 ?side2 A11.out).mono ?_); (case side1 => repeat (first | exact (Kd.C_below HR0.out HB.out) | (with_reducible refine Kd.C_alloc ?_ _) | (with_reducible refine Kd.C_drewN ?_ _) | (with_reducible refine Kd.C_drew ?_))); (case side2 => exact HC0.out); rintro e w' ⟨rfl, ⟨nd, rfl⟩⟩; refine ⟨_, rfl, ?_⟩) | (go_at_call 10; (with_reducible refine (muslinlaw06_live.calls kj2  t240 _ A14.out).mono ?_); rintro e w16 ⟨rfl, hb⟩; have n0_ := Aside0.mk (below_step (by repeat (first | (with_reducible first | exact HB.out | apply below_alloc | apply pw_below_drewN | apply below_drew1) | exact HB.out)) hb); clear HB; have HB := n0_; clear n0_; (try clear hb); (try clear hb2); (try clear hk); (try clear hi)))
            go_ret
            exact ⟨by first | rfl | (simp [errW_none, errW_some] <;> rfl) | (simp [*, errW_none, errW_some] <;> rfl), by repeat (first | (with_reducible first | exact HB.out | apply below_alloc | apply pw_below_drewN | apply below_drew1) | exact HB.out)⟩
          · rw [if_neg c13] at H
            have c13b0 : (t237 == t239) = false := beq_eq_false_iff_ne.mpr c13
            have c13b1 : (t237 != t239) = true := bne_iff_ne.mpr c13
            obtain rfl := Option.some.inj H
            go_wp2_with (first | ((with_reducible refine gate_callee (f := 20) rfl ?_); refine goesL_ (some 21) rfl rfl Tryd.func20 (by kernel_rfl) rfl #[.slice A0 l0.length c0, .string a1] rfl (by (try simp only [List.map_toArray, List.map_cons, List.map_nil]); first | done | rfl | (simp only [List.length_drop, List.length_take]; rfl)) ?_; (with_reducible refine (lines_Write.calls _ _ l0 a1 t236 t237 _ ?side1 ?side2 A10.out).mono ?_); (case side1 => repeat (first | exact (Kd.C_below HR0.out HB.out) | (with_reducible refine Kd.C_alloc ?_ _) | (with_reducible refine Kd.C_drewN ?_ _) | (with_reducible refine Kd.C_drew ?_))); (case side2 => exact HC0.out); rintro e w17 ⟨rfl, hb⟩; refine ⟨_, rfl, ?_⟩; have n0_ := Aside0.mk (below_step (by repeat (first | (with_reducible first | exact HB.out | apply below_alloc | apply pw_below_drewN | apply below_drew1) | exact HB.out)) hb); clear HB; have HB := n0_; clear n0_; (try clear hb); (try clear hb2); (try clear hk); (try clear hi)) | ((with_reducible refine gate_callee (f := 21) rfl ?_); refine goesL_ (some 27) rfl rfl Tryd.func21 (by kernel_rfl) rfl #[.slice A0 l0.length c0, .string a1] rfl (by (try simp only [List.map_toArray, List.map_cons, List.map_nil]); first | done | rfl | (simp only [List.length_drop, List.length_take]; rfl)) ?_; (with_reducible refine (muslinref06_Write.calls kj2 _ _ l0 a1 t238 t239 _ ?side1 ?side2 A11.out).mono ?_); (case side1 => repeat (first | exact (Kd.C_below HR0.out HB.out) | (with_reducible refine Kd.C_alloc ?_ _) | (with_reducible refine Kd.C_drewN ?_ _) | (with_reducible refine Kd.C_drew ?_))); (case side2 => exact HC0.out); rintro e w' ⟨rfl, ⟨nd, rfl⟩⟩; refine ⟨_, rfl, ?_⟩))
            go_ret
            exact ⟨by first | rfl | (simp [errW_none, errW_some] <;> rfl) | (simp [*, errW_none, errW_some] <;> rfl), by repeat (first | (with_reducible first | exact HB.out | apply below_alloc | apply pw_below_drewN | apply below_drew1) | exact HB.out)⟩
        · rw [if_neg c12] at H
          have c12b0 : (t236.toList == t238.toList) = false := beq_eq_false_iff_ne.mpr c12
          have c12b1 : (t236.toList != t238.toList) = true := bne_iff_ne.mpr c12
          obtain rfl := Option.some.inj H
          go_wp2_with (first | ((with_reducible refine gate_callee (f := 20) rfl ?_); refine goesL_ (some 21) rfl rfl Tryd.func20 (by kernel_rfl) rfl #[.slice A0 l0.length c0, .string a1] rfl (by (try simp only [List.map_toArray, List.map_cons, List.map_nil]); first | done | rfl | (simp only [List.length_drop, List.length_take]; rfl)) ?_; (with_reducible refine (lines_Write.calls _ _ l0 a1 t236 t237 _ ?side1 ?side2 A10.out).mono ?_); (case side1 => repeat (first | exact (Kd.C_below HR0.out HB.out) | (with_reducible refine Kd.C_alloc ?_ _) | (with_reducible refine Kd.C_drewN ?_ _) | (with_reducible refine Kd.C_drew ?_))); (case side2 => exact HC0.out); rintro e w18 ⟨rfl, hb⟩; refine ⟨_, rfl, ?_⟩; have n0_ := Aside0.mk (below_step (by repeat (first | (with_reducible first | exact HB.out | apply below_alloc | apply pw_below_drewN | apply below_drew1) | exact HB.out)) hb); clear HB; have HB := n0_; clear n0_; (try clear hb); (try clear hb2); (try clear hk); (try clear hi)) | ((with_reducible refine gate_callee (f := 21) rfl ?_); refine goesL_ (some 27) rfl rfl Tryd.func21 (by kernel_rfl) rfl #[.slice A0 l0.length c0, .string a1] rfl (by (try simp only [List.map_toArray, List.map_cons, List.map_nil]); first | done | rfl | (simp only [List.length_drop, List.length_take]; rfl)) ?_; (with_reducible refine (muslinref06_Write.calls kj2 _ _ l0 a1 t238 t239 _ ?side1 ?side2 A11.out).mono ?_); (case side1 => repeat (first | exact (Kd.C_below HR0.out HB.out) | (with_reducible refine Kd.C_alloc ?_ _) | (with_reducible refine Kd.C_drewN ?_ _) | (with_reducible refine Kd.C_drew ?_))); (case side2 => exact HC0.out); rintro e w' ⟨rfl, ⟨nd, rfl⟩⟩; refine ⟨_, rfl, ?_⟩))
          go_ret
          exact ⟨by first | rfl | (simp [errW_none, errW_some] <;> rfl) | (simp [*, errW_none, errW_some] <;> rfl), by repeat (first | (with_reducible first | exact HB.out | apply below_alloc | apply pw_below_drewN | apply below_drew1) | exact HB.out)⟩

/-! ### muslinlaw06_LinesBack: function 7 -/
def muslinlaw06_LinesBack.j0 : Nat → List (S29) → ByteArray → Bool → Option (Bool)
  | 0, _, _, _ => none
  | k + 1, x0, x1, x16 => if x16 = true then ((muslinlaw06_live.f k).bind fun t243 => (some t243)) else ((lines_Write.f x0 x1).bind fun bt244 => (if bt244.2 = 0 then ((lines_Head.f bt244.1).bind fun bt246 => ((muslinref06_Same.f k bt246.1 x0).bind fun t250 => (if t250 = true then (if bt246.2.toList = x1.toList then ((muslinlaw06_live.f k).bind fun t251 => (some t251)) else (some false)) else (some false)))) else (if bt244.1.toList = ([] : List UInt8) then ((muslinlaw06_live.f k).bind fun t252 => (some t252)) else (some false))))
def muslinlaw06_LinesBack.f (k : Nat) (l0 : List (S29)) (a1 : ByteArray) : Option (Bool) := (muslinlaw06_few.f k l0).bind fun t241 => (if t241 = true then ((muslinlaw06_short.f a1).bind fun t242 => (muslinlaw06_LinesBack.j0 k l0 a1 (!t242))) else (muslinlaw06_LinesBack.j0 k l0 a1 true))
theorem muslinlaw06_LinesBack.mono_l : ∀ k, (∀ y0 y1 y2, LeO (muslinlaw06_LinesBack.j0 k y0 y1 y2) (muslinlaw06_LinesBack.j0 (k + 1) y0 y1 y2))
  | 0 => fun _ _ _ r h => by simp [muslinlaw06_LinesBack.j0] at h
  | k + 1 => by
    have ih0 := muslinlaw06_LinesBack.mono_l k
    · intro y0 y1 y2
      unfold muslinlaw06_LinesBack.j0
      repeat' first
      | (with_reducible exact ih0 _ _ _)
      | (with_reducible exact muslinlaw06_few.mono _ _)
      | (with_reducible exact muslinlaw06_live.mono _)
      | (with_reducible exact muslinref06_Same.mono _ _ _)
      | (with_reducible exact LeO.refl _)
      | (with_reducible exact LeO.none _)
      | (with_reducible refine LeO.ite ?_ ?_)
      | (with_reducible refine LeO.bind ?_ (fun _ => ?_))
      | exact ih0 _ _ _
      | exact muslinlaw06_few.mono _ _
      | exact muslinlaw06_live.mono _
      | exact muslinref06_Same.mono _ _ _
      | exact LeO.none _
      | refine LeO.ite ?_ ?_
      | refine LeO.bind ?_ (fun _ => ?_)
theorem muslinlaw06_LinesBack.mono : ∀ a0 a1 k, LeO (muslinlaw06_LinesBack.f k a0 a1) (muslinlaw06_LinesBack.f (k + 1) a0 a1) := by
  intro a0 a1 k
  have ih0 := muslinlaw06_LinesBack.mono_l k
  unfold muslinlaw06_LinesBack.f
  repeat' first
      | (with_reducible exact ih0 _ _ _)
      | (with_reducible exact muslinlaw06_few.mono _ _)
      | (with_reducible exact muslinlaw06_live.mono _)
      | (with_reducible exact muslinref06_Same.mono _ _ _)
      | (with_reducible exact LeO.refl _)
      | (with_reducible exact LeO.none _)
      | (with_reducible refine LeO.ite ?_ ?_)
      | (with_reducible refine LeO.bind ?_ (fun _ => ?_))
      | exact ih0 _ _ _
      | exact muslinlaw06_few.mono _ _
      | exact muslinlaw06_live.mono _
      | exact muslinref06_Same.mono _ _ _
      | exact LeO.none _
      | refine LeO.ite ?_ ?_
      | refine LeO.bind ?_ (fun _ => ?_)
set_option maxHeartbeats 8000000 in
set_option maxRecDepth 100000 in
theorem muslinlaw06_LinesBack.calls (k : Nat) (A0 : Option Addr) (c0 : Nat) (l0 : List (S29)) (a1 : ByteArray) (r : Bool) (w : World) (hr0 : Kd.C k29 w A0 l0.length l0) (hc0 : l0.length ≤ c0) (h : muslinlaw06_LinesBack.f k l0 a1 = some r) :
    Calls Tryd.prog 7 #[.slice A0 l0.length c0, .string a1] w fun e w' => e = .returned (.bool r) ∧ Below w.heap.size w w' := by
  have HR0 := Aside0.mk hr0
  have HC0 := Aside0.mk hc0
  clear hr0 hc0
  have HB := Aside0.mk (Below.refl w.heap.size w)
  have H : ((muslinlaw06_few.f k l0).bind fun t241 => (if t241 = true then ((muslinlaw06_short.f a1).bind fun t242 => (muslinlaw06_LinesBack.j0 k l0 a1 (!t242))) else (muslinlaw06_LinesBack.j0 k l0 a1 true))) = some r := h
  clear h
  have HC3 := Aside0.mk H
  clear H
  go_enter Tryd.func7, Tryd.ntmps7
  go_upto_region 1 with (fail)
  go_cut [16] (fun v16 wc => ∃ (kq : Nat) (x16_2 : Bool), v16 = .bool x16_2 ∧ Aside0 (muslinlaw06_LinesBack.j0 kq l0 a1 x16_2 = some r) ∧ Aside0 (kq ≤ k) ∧ Aside0 (Below w.heap.size w wc))
  case first =>
    have H := HC3.out
    clear HC3
    replace H := Option.bind_eq_some_iff.mp H
    obtain ⟨t241, A40, H⟩ := H
    replace H : (if t241 = true then ((muslinlaw06_short.f a1).bind fun t242 => (muslinlaw06_LinesBack.j0 k l0 a1 (!t242))) else (muslinlaw06_LinesBack.j0 k l0 a1 true)) = some r := H
    have A4 := Aside0.mk A40
    clear A40
    by_cases c5 : t241 = true
    · subst c5
      have H1 : ((muslinlaw06_short.f a1).bind fun t242 => (muslinlaw06_LinesBack.j0 k l0 a1 (!t242))) = some r := by rw [if_pos rfl] at H; exact H
      clear H
      have H := H1
      clear H1
      replace H := Option.bind_eq_some_iff.mp H
      obtain ⟨t242, A60, H⟩ := H
      replace H : (muslinlaw06_LinesBack.j0 k l0 a1 (!t242)) = some r := H
      have A6 := Aside0.mk A60
      clear A60
      have H' := Aside0.mk H
      clear H
      go_wp2_with (first | ((with_reducible refine gate_callee (f := 13) rfl ?_); refine goesL_ (some 10) rfl rfl Tryd.func13 (by kernel_rfl) rfl #[.slice A0 l0.length c0] rfl (by (try simp only [List.map_toArray, List.map_cons, List.map_nil]); first | done | rfl | (simp only [List.length_drop, List.length_take]; rfl)) ?_; (with_reducible refine (muslinlaw06_few.calls k _ _ l0 true _ ?side1 ?side2 A4.out).mono ?_); (case side1 => repeat (first | exact (Kd.C_below HR0.out HB.out) | (with_reducible refine Kd.C_alloc ?_ _) | (with_reducible refine Kd.C_drewN ?_ _) | (with_reducible refine Kd.C_drew ?_))); (case side2 => exact HC0.out); rintro e w' ⟨rfl, ⟨nd, rfl⟩⟩; refine ⟨_, rfl, ?_⟩) | (go_at_call 9; (with_reducible refine (muslinlaw06_short.calls a1 t242 _ A6.out).mono ?_); rintro e w' ⟨rfl, ⟨nd, rfl⟩⟩))
      go_meet
      case rel => exact ⟨_, (!t242), (by first | rfl | (simp; done) | (simp [*]; done)), H', ⟨by first | omega | exact Nat.le_refl _⟩, ⟨by repeat (first | (with_reducible first | exact HB.out | apply below_alloc | apply pw_below_drewN | apply below_drew1) | exact HB.out)⟩⟩
    · replace c5 := Bool.eq_false_iff.mpr c5
      subst c5
      have H1 : (muslinlaw06_LinesBack.j0 k l0 a1 true) = some r := by rw [if_neg (show ¬ (false = true) by decide)] at H; exact H
      clear H
      have H := H1
      clear H1
      have H' := Aside0.mk H
      clear H
      go_wp2_with (first | ((with_reducible refine gate_callee (f := 13) rfl ?_); refine goesL_ (some 10) rfl rfl Tryd.func13 (by kernel_rfl) rfl #[.slice A0 l0.length c0] rfl (by (try simp only [List.map_toArray, List.map_cons, List.map_nil]); first | done | rfl | (simp only [List.length_drop, List.length_take]; rfl)) ?_; (with_reducible refine (muslinlaw06_few.calls k _ _ l0 false _ ?side1 ?side2 A4.out).mono ?_); (case side1 => repeat (first | exact (Kd.C_below HR0.out HB.out) | (with_reducible refine Kd.C_alloc ?_ _) | (with_reducible refine Kd.C_drewN ?_ _) | (with_reducible refine Kd.C_drew ?_))); (case side2 => exact HC0.out); rintro e w' ⟨rfl, ⟨nd, rfl⟩⟩; refine ⟨_, rfl, ?_⟩))
      go_meet
      case rel => exact ⟨_, (true), (by first | rfl | (simp; done) | (simp [*]; done)), H', ⟨by first | omega | exact Nat.le_refl _⟩, ⟨by repeat (first | (with_reducible first | exact HB.out | apply below_alloc | apply pw_below_drewN | apply below_drew1) | exact HB.out)⟩⟩
  case rest =>
    clear HC3
    try clear c1
    try clear p2
    try clear c5
    obtain ⟨kq, x16_2, rfl, HA, HJ2, HB⟩ := hcut
    cases kq with
    | zero => exact absurd HA.out (by simp [muslinlaw06_LinesBack.j0])
    | succ kj2 =>
      have H := HA.out
      clear HA
      simp only [muslinlaw06_LinesBack.j0] at H
      by_cases c7 : x16_2 = true
      · subst c7
        have H1 : ((muslinlaw06_live.f kj2).bind fun t243 => (some t243)) = some r := by rw [if_pos rfl] at H; exact H
        clear H
        have H := H1
        clear H1
        replace H := Option.bind_eq_some_iff.mp H
        obtain ⟨t243, A80, H⟩ := H
        replace H : (some t243) = some r := H
        have A8 := Aside0.mk A80
        clear A80
        obtain rfl := Option.some.inj H
        go_wp2_with (first | ((with_reducible refine gate_callee (f := 10) rfl ?_); refine goesL_ (some 17) rfl rfl Tryd.func10 (by kernel_rfl) rfl #[] rfl (by (try simp only [List.map_toArray, List.map_cons, List.map_nil]); first | done | rfl | (simp only [List.length_drop, List.length_take]; rfl)) ?_; (with_reducible refine (muslinlaw06_live.calls kj2  t243 _ A8.out).mono ?_); rintro e w9 ⟨rfl, hb⟩; refine ⟨_, rfl, ?_⟩; have n0_ := Aside0.mk (below_step (by repeat (first | (with_reducible first | exact HB.out | apply below_alloc | apply pw_below_drewN | apply below_drew1) | exact HB.out)) hb); clear HB; have HB := n0_; clear n0_; (try clear hb); (try clear hb2); (try clear hk); (try clear hi)))
        go_ret
        exact ⟨by first | rfl | (simp [errW_none, errW_some] <;> rfl) | (simp [*, errW_none, errW_some] <;> rfl), by repeat (first | (with_reducible first | exact HB.out | apply below_alloc | apply pw_below_drewN | apply below_drew1) | exact HB.out)⟩
      · replace c7 := Bool.eq_false_iff.mpr c7
        subst c7
        have H1 : ((lines_Write.f l0 a1).bind fun bt244 => (if bt244.2 = 0 then ((lines_Head.f bt244.1).bind fun bt246 => ((muslinref06_Same.f kj2 bt246.1 l0).bind fun t250 => (if t250 = true then (if bt246.2.toList = a1.toList then ((muslinlaw06_live.f kj2).bind fun t251 => (some t251)) else (some false)) else (some false)))) else (if bt244.1.toList = ([] : List UInt8) then ((muslinlaw06_live.f kj2).bind fun t252 => (some t252)) else (some false)))) = some r := by rw [if_neg (show ¬ (false = true) by decide)] at H; exact H
        clear H
        have H := H1
        clear H1
        replace H := Option.bind_eq_some_iff.mp H
        obtain ⟨⟨t244, t245⟩, A100, H⟩ := H
        replace H : (if t245 = 0 then ((lines_Head.f t244).bind fun bt246 => ((muslinref06_Same.f kj2 bt246.1 l0).bind fun t250 => (if t250 = true then (if bt246.2.toList = a1.toList then ((muslinlaw06_live.f kj2).bind fun t251 => (some t251)) else (some false)) else (some false)))) else (if t244.toList = ([] : List UInt8) then ((muslinlaw06_live.f kj2).bind fun t252 => (some t252)) else (some false))) = some r := H
        have A10 := Aside0.mk A100
        clear A100
        by_cases c11 : t245 = 0
        · rw [if_pos c11] at H
          have c11b0 : (t245 == 0) = true := beq_iff_eq.mpr c11
          have c11b1 : (t245 != 0) = false := bne_eq_false_iff_eq.mpr c11
          clear c11
          replace H := Option.bind_eq_some_iff.mp H
          obtain ⟨⟨t246, t247⟩, A120, H⟩ := H
          replace H : ((muslinref06_Same.f kj2 t246 l0).bind fun t250 => (if t250 = true then (if t247.toList = a1.toList then ((muslinlaw06_live.f kj2).bind fun t251 => (some t251)) else (some false)) else (some false))) = some r := H
          have A12 := Aside0.mk A120
          clear A120
          replace H := Option.bind_eq_some_iff.mp H
          obtain ⟨t250, A130, H⟩ := H
          replace H : (if t250 = true then (if t247.toList = a1.toList then ((muslinlaw06_live.f kj2).bind fun t251 => (some t251)) else (some false)) else (some false)) = some r := H
          have A13 := Aside0.mk A130
          clear A130
          by_cases c14 : t250 = true
          · subst c14
            have H1 : (if t247.toList = a1.toList then ((muslinlaw06_live.f kj2).bind fun t251 => (some t251)) else (some false)) = some r := by rw [if_pos rfl] at H; exact H
            clear H
            have H := H1
            clear H1
            by_cases c15 : t247.toList = a1.toList
            · rw [if_pos c15] at H
              have c15b0 : (t247.toList == a1.toList) = true := beq_iff_eq.mpr c15
              have c15b1 : (t247.toList != a1.toList) = false := bne_eq_false_iff_eq.mpr c15
              clear c15
              replace H := Option.bind_eq_some_iff.mp H
              obtain ⟨t251, A160, H⟩ := H
              replace H : (some t251) = some r := H
              have A16 := Aside0.mk A160
              clear A160
              obtain rfl := Option.some.inj H
              go_wp2_with (first | ((with_reducible refine gate_callee (f := 20) rfl ?_); refine goesL_ (some 21) rfl rfl Tryd.func20 (by kernel_rfl) rfl #[.slice A0 l0.length c0, .string a1] rfl (by (try simp only [List.map_toArray, List.map_cons, List.map_nil]); first | done | rfl | (simp only [List.length_drop, List.length_take]; rfl)) ?_; (with_reducible refine (lines_Write.calls _ _ l0 a1 t244 t245 _ ?side1 ?side2 A10.out).mono ?_); (case side1 => repeat (first | exact (Kd.C_below HR0.out HB.out) | (with_reducible refine Kd.C_alloc ?_ _) | (with_reducible refine Kd.C_drewN ?_ _) | (with_reducible refine Kd.C_drew ?_))); (case side2 => exact HC0.out); rintro e w17 ⟨rfl, hb⟩; refine ⟨_, rfl, ?_⟩; have n0_ := Aside0.mk (below_step (by repeat (first | (with_reducible first | exact HB.out | apply below_alloc | apply pw_below_drewN | apply below_drew1) | exact HB.out)) hb); clear HB; have HB := n0_; clear n0_; (try clear hb); (try clear hb2); (try clear hk); (try clear hi)) | ((with_reducible refine gate_callee (f := 15) rfl ?_); refine goesL_ (some 33) rfl rfl Tryd.func15 (by kernel_rfl) rfl #[.string t244] rfl (by (try simp only [List.map_toArray, List.map_cons, List.map_nil]); first | done | rfl | (simp only [List.length_drop, List.length_take]; rfl)) ?_; (with_reducible refine (lines_Head.calls t244 t246 t247 _ A12.out).mono ?_); rintro e w18 ⟨v248, rfl, ho0, hb⟩; refine ⟨_, rfl, ?_⟩; have n0_ := Aside0.mk (Kd.R_lower ho0 (below_size (by repeat (first | (with_reducible first | exact HB.out | apply below_alloc | apply pw_below_drewN | apply below_drew1) | exact HB.out)))); have n1_ := Aside0.mk (below_step (by repeat (first | (with_reducible first | exact HB.out | apply below_alloc | apply pw_below_drewN | apply below_drew1) | exact HB.out)) hb); clear HB; have HO249 := n0_; have HB := n1_; clear n0_ n1_; (try clear hb); (try clear hb2); (try clear hk); (try clear hi); (try clear ho0); obtain ⟨Ao19, co19, eo19⟩ := Kd.R_slice HO249.out; subst eo19) | ((with_reducible refine gate_callee (f := 18) rfl ?_); refine goesL_ (some 38) rfl rfl Tryd.func18 (by kernel_rfl) rfl #[.slice Ao19 t246.length co19, .slice A0 l0.length c0] rfl (by (try simp only [List.map_toArray, List.map_cons, List.map_nil]); first | done | rfl | (simp only [List.length_drop, List.length_take]; rfl)) ?_; (with_reducible refine (muslinref06_Same.calls kj2 _ _ t246 _ _ l0 true _ ?side1 ?side2 ?side3 ?side4 A13.out).mono ?_); (case side1 => repeat (first | exact (Kd.R_reads' HO249.out).2.2 | (with_reducible refine Kd.C_alloc ?_ _) | (with_reducible refine Kd.C_drewN ?_ _) | (with_reducible refine Kd.C_drew ?_))); (case side2 => exact (Kd.R_reads' HO249.out).2.1); (case side3 => repeat (first | exact (Kd.C_below HR0.out HB.out) | (with_reducible refine Kd.C_alloc ?_ _) | (with_reducible refine Kd.C_drewN ?_ _) | (with_reducible refine Kd.C_drew ?_))); (case side4 => exact HC0.out); rintro e w' ⟨rfl, ⟨nd, rfl⟩⟩; refine ⟨_, rfl, ?_⟩) | (go_at_call 10; (with_reducible refine (muslinlaw06_live.calls kj2  t251 _ A16.out).mono ?_); rintro e w20 ⟨rfl, hb⟩; have n0_ := Aside0.mk (Kd.R_below (by (with_reducible repeat (first | apply Kd.R_alloc | apply Kd.R_drewN | apply Kd.R_drew)); exact HO249.out) hb); have n1_ := Aside0.mk (below_step (by repeat (first | (with_reducible first | exact HB.out | apply below_alloc | apply pw_below_drewN | apply below_drew1) | exact HB.out)) hb); clear HO249; clear HB; have HO249 := n0_; have HB := n1_; clear n0_ n1_; (try clear hb); (try clear hb2); (try clear hk); (try clear hi)))
              go_ret
              exact ⟨by first | rfl | (simp [errW_none, errW_some] <;> rfl) | (simp [*, errW_none, errW_some] <;> rfl), by repeat (first | (with_reducible first | exact HB.out | apply below_alloc | apply pw_below_drewN | apply below_drew1) | exact HB.out)⟩
            · rw [if_neg c15] at H
              have c15b0 : (t247.toList == a1.toList) = false := beq_eq_false_iff_ne.mpr c15
              have c15b1 : (t247.toList != a1.toList) = true := bne_iff_ne.mpr c15
              obtain rfl := Option.some.inj H
              go_wp2_with (first | ((with_reducible refine gate_callee (f := 20) rfl ?_); refine goesL_ (some 21) rfl rfl Tryd.func20 (by kernel_rfl) rfl #[.slice A0 l0.length c0, .string a1] rfl (by (try simp only [List.map_toArray, List.map_cons, List.map_nil]); first | done | rfl | (simp only [List.length_drop, List.length_take]; rfl)) ?_; (with_reducible refine (lines_Write.calls _ _ l0 a1 t244 t245 _ ?side1 ?side2 A10.out).mono ?_); (case side1 => repeat (first | exact (Kd.C_below HR0.out HB.out) | (with_reducible refine Kd.C_alloc ?_ _) | (with_reducible refine Kd.C_drewN ?_ _) | (with_reducible refine Kd.C_drew ?_))); (case side2 => exact HC0.out); rintro e w21 ⟨rfl, hb⟩; refine ⟨_, rfl, ?_⟩; have n0_ := Aside0.mk (below_step (by repeat (first | (with_reducible first | exact HB.out | apply below_alloc | apply pw_below_drewN | apply below_drew1) | exact HB.out)) hb); clear HB; have HB := n0_; clear n0_; (try clear hb); (try clear hb2); (try clear hk); (try clear hi)) | ((with_reducible refine gate_callee (f := 15) rfl ?_); refine goesL_ (some 33) rfl rfl Tryd.func15 (by kernel_rfl) rfl #[.string t244] rfl (by (try simp only [List.map_toArray, List.map_cons, List.map_nil]); first | done | rfl | (simp only [List.length_drop, List.length_take]; rfl)) ?_; (with_reducible refine (lines_Head.calls t244 t246 t247 _ A12.out).mono ?_); rintro e w22 ⟨v248, rfl, ho0, hb⟩; refine ⟨_, rfl, ?_⟩; have n0_ := Aside0.mk (Kd.R_lower ho0 (below_size (by repeat (first | (with_reducible first | exact HB.out | apply below_alloc | apply pw_below_drewN | apply below_drew1) | exact HB.out)))); have n1_ := Aside0.mk (below_step (by repeat (first | (with_reducible first | exact HB.out | apply below_alloc | apply pw_below_drewN | apply below_drew1) | exact HB.out)) hb); clear HB; have HO249 := n0_; have HB := n1_; clear n0_ n1_; (try clear hb); (try clear hb2); (try clear hk); (try clear hi); (try clear ho0); obtain ⟨Ao23, co23, eo23⟩ := Kd.R_slice HO249.out; subst eo23) | ((with_reducible refine gate_callee (f := 18) rfl ?_); refine goesL_ (some 38) rfl rfl Tryd.func18 (by kernel_rfl) rfl #[.slice Ao23 t246.length co23, .slice A0 l0.length c0] rfl (by (try simp only [List.map_toArray, List.map_cons, List.map_nil]); first | done | rfl | (simp only [List.length_drop, List.length_take]; rfl)) ?_; (with_reducible refine (muslinref06_Same.calls kj2 _ _ t246 _ _ l0 true _ ?side1 ?side2 ?side3 ?side4 A13.out).mono ?_); (case side1 => repeat (first | exact (Kd.R_reads' HO249.out).2.2 | (with_reducible refine Kd.C_alloc ?_ _) | (with_reducible refine Kd.C_drewN ?_ _) | (with_reducible refine Kd.C_drew ?_))); (case side2 => exact (Kd.R_reads' HO249.out).2.1); (case side3 => repeat (first | exact (Kd.C_below HR0.out HB.out) | (with_reducible refine Kd.C_alloc ?_ _) | (with_reducible refine Kd.C_drewN ?_ _) | (with_reducible refine Kd.C_drew ?_))); (case side4 => exact HC0.out); rintro e w' ⟨rfl, ⟨nd, rfl⟩⟩; refine ⟨_, rfl, ?_⟩))
              go_ret
              exact ⟨by first | rfl | (simp [errW_none, errW_some] <;> rfl) | (simp [*, errW_none, errW_some] <;> rfl), by repeat (first | (with_reducible first | exact HB.out | apply below_alloc | apply pw_below_drewN | apply below_drew1) | exact HB.out)⟩
          · replace c14 := Bool.eq_false_iff.mpr c14
            subst c14
            have H1 : (some false) = some r := by rw [if_neg (show ¬ (false = true) by decide)] at H; exact H
            clear H
            have H := H1
            clear H1
            obtain rfl := Option.some.inj H
            go_wp2_with (first | ((with_reducible refine gate_callee (f := 20) rfl ?_); refine goesL_ (some 21) rfl rfl Tryd.func20 (by kernel_rfl) rfl #[.slice A0 l0.length c0, .string a1] rfl (by (try simp only [List.map_toArray, List.map_cons, List.map_nil]); first | done | rfl | (simp only [List.length_drop, List.length_take]; rfl)) ?_; (with_reducible refine (lines_Write.calls _ _ l0 a1 t244 t245 _ ?side1 ?side2 A10.out).mono ?_); (case side1 => repeat (first | exact (Kd.C_below HR0.out HB.out) | (with_reducible refine Kd.C_alloc ?_ _) | (with_reducible refine Kd.C_drewN ?_ _) | (with_reducible refine Kd.C_drew ?_))); (case side2 => exact HC0.out); rintro e w24 ⟨rfl, hb⟩; refine ⟨_, rfl, ?_⟩; have n0_ := Aside0.mk (below_step (by repeat (first | (with_reducible first | exact HB.out | apply below_alloc | apply pw_below_drewN | apply below_drew1) | exact HB.out)) hb); clear HB; have HB := n0_; clear n0_; (try clear hb); (try clear hb2); (try clear hk); (try clear hi)) | ((with_reducible refine gate_callee (f := 15) rfl ?_); refine goesL_ (some 33) rfl rfl Tryd.func15 (by kernel_rfl) rfl #[.string t244] rfl (by (try simp only [List.map_toArray, List.map_cons, List.map_nil]); first | done | rfl | (simp only [List.length_drop, List.length_take]; rfl)) ?_; (with_reducible refine (lines_Head.calls t244 t246 t247 _ A12.out).mono ?_); rintro e w25 ⟨v248, rfl, ho0, hb⟩; refine ⟨_, rfl, ?_⟩; have n0_ := Aside0.mk (Kd.R_lower ho0 (below_size (by repeat (first | (with_reducible first | exact HB.out | apply below_alloc | apply pw_below_drewN | apply below_drew1) | exact HB.out)))); have n1_ := Aside0.mk (below_step (by repeat (first | (with_reducible first | exact HB.out | apply below_alloc | apply pw_below_drewN | apply below_drew1) | exact HB.out)) hb); clear HB; have HO249 := n0_; have HB := n1_; clear n0_ n1_; (try clear hb); (try clear hb2); (try clear hk); (try clear hi); (try clear ho0); obtain ⟨Ao26, co26, eo26⟩ := Kd.R_slice HO249.out; subst eo26) | ((with_reducible refine gate_callee (f := 18) rfl ?_); refine goesL_ (some 38) rfl rfl Tryd.func18 (by kernel_rfl) rfl #[.slice Ao26 t246.length co26, .slice A0 l0.length c0] rfl (by (try simp only [List.map_toArray, List.map_cons, List.map_nil]); first | done | rfl | (simp only [List.length_drop, List.length_take]; rfl)) ?_; (with_reducible refine (muslinref06_Same.calls kj2 _ _ t246 _ _ l0 false _ ?side1 ?side2 ?side3 ?side4 A13.out).mono ?_); (case side1 => repeat (first | exact (Kd.R_reads' HO249.out).2.2 | (with_reducible refine Kd.C_alloc ?_ _) | (with_reducible refine Kd.C_drewN ?_ _) | (with_reducible refine Kd.C_drew ?_))); (case side2 => exact (Kd.R_reads' HO249.out).2.1); (case side3 => repeat (first | exact (Kd.C_below HR0.out HB.out) | (with_reducible refine Kd.C_alloc ?_ _) | (with_reducible refine Kd.C_drewN ?_ _) | (with_reducible refine Kd.C_drew ?_))); (case side4 => exact HC0.out); rintro e w' ⟨rfl, ⟨nd, rfl⟩⟩; refine ⟨_, rfl, ?_⟩))
            go_ret
            exact ⟨by first | rfl | (simp [errW_none, errW_some] <;> rfl) | (simp [*, errW_none, errW_some] <;> rfl), by repeat (first | (with_reducible first | exact HB.out | apply below_alloc | apply pw_below_drewN | apply below_drew1) | exact HB.out)⟩
        · rw [if_neg c11] at H
          have c11b0 : (t245 == 0) = false := beq_eq_false_iff_ne.mpr c11
          have c11b1 : (t245 != 0) = true := bne_iff_ne.mpr c11
          by_cases c27 : t244.toList = ([] : List UInt8)
          · rw [if_pos c27] at H
            have c27b0 : (t244.toList == ([] : List UInt8)) = true := beq_iff_eq.mpr c27
            have c27b1 : (t244.toList != ([] : List UInt8)) = false := bne_eq_false_iff_eq.mpr c27
            clear c27
            replace H := Option.bind_eq_some_iff.mp H
            obtain ⟨t252, A280, H⟩ := H
            replace H : (some t252) = some r := H
            have A28 := Aside0.mk A280
            clear A280
            obtain rfl := Option.some.inj H
            go_wp2_with (first | ((with_reducible refine gate_callee (f := 20) rfl ?_); refine goesL_ (some 21) rfl rfl Tryd.func20 (by kernel_rfl) rfl #[.slice A0 l0.length c0, .string a1] rfl (by (try simp only [List.map_toArray, List.map_cons, List.map_nil]); first | done | rfl | (simp only [List.length_drop, List.length_take]; rfl)) ?_; (with_reducible refine (lines_Write.calls _ _ l0 a1 t244 t245 _ ?side1 ?side2 A10.out).mono ?_); (case side1 => repeat (first | exact (Kd.C_below HR0.out HB.out) | (with_reducible refine Kd.C_alloc ?_ _) | (with_reducible refine Kd.C_drewN ?_ _) | (with_reducible refine Kd.C_drew ?_))); (case side2 => exact HC0.out); rintro e w29 ⟨rfl, hb⟩; refine ⟨_, rfl, ?_⟩; have n0_ := Aside0.mk (below_step (by repeat (first | (with_reducible first | exact HB.out | apply below_alloc | apply pw_below_drewN | apply below_drew1) | exact HB.out)) hb); clear HB; have HB := n0_; clear n0_; (try clear hb); (try clear hb2); (try clear hk); (try clear hi)) | (go_at_call 10; (with_reducible refine (muslinlaw06_live.calls kj2  t252 _ A28.out).mono ?_); rintro e w30 ⟨rfl, hb⟩; have n0_ := Aside0.mk (below_step (by repeat (first | (with_reducible first | exact HB.out | apply below_alloc | apply pw_below_drewN | apply below_drew1) | exact HB.out)) hb); clear HB; have HB := n0_; clear n0_; (try clear hb); (try clear hb2); (try clear hk); (try clear hi)))
            go_ret
            exact ⟨by first | rfl | (simp [errW_none, errW_some] <;> rfl) | (simp [*, errW_none, errW_some] <;> rfl), by repeat (first | (with_reducible first | exact HB.out | apply below_alloc | apply pw_below_drewN | apply below_drew1) | exact HB.out)⟩
          · rw [if_neg c27] at H
            have c27b0 : (t244.toList == ([] : List UInt8)) = false := beq_eq_false_iff_ne.mpr c27
            have c27b1 : (t244.toList != ([] : List UInt8)) = true := bne_iff_ne.mpr c27
            obtain rfl := Option.some.inj H
            go_wp2_with (first | ((with_reducible refine gate_callee (f := 20) rfl ?_); refine goesL_ (some 21) rfl rfl Tryd.func20 (by kernel_rfl) rfl #[.slice A0 l0.length c0, .string a1] rfl (by (try simp only [List.map_toArray, List.map_cons, List.map_nil]); first | done | rfl | (simp only [List.length_drop, List.length_take]; rfl)) ?_; (with_reducible refine (lines_Write.calls _ _ l0 a1 t244 t245 _ ?side1 ?side2 A10.out).mono ?_); (case side1 => repeat (first | exact (Kd.C_below HR0.out HB.out) | (with_reducible refine Kd.C_alloc ?_ _) | (with_reducible refine Kd.C_drewN ?_ _) | (with_reducible refine Kd.C_drew ?_))); (case side2 => exact HC0.out); rintro e w31 ⟨rfl, hb⟩; refine ⟨_, rfl, ?_⟩; have n0_ := Aside0.mk (below_step (by repeat (first | (with_reducible first | exact HB.out | apply below_alloc | apply pw_below_drewN | apply below_drew1) | exact HB.out)) hb); clear HB; have HB := n0_; clear n0_; (try clear hb); (try clear hb2); (try clear hk); (try clear hi)))
            go_ret
            exact ⟨by first | rfl | (simp [errW_none, errW_some] <;> rfl) | (simp [*, errW_none, errW_some] <;> rfl), by repeat (first | (with_reducible first | exact HB.out | apply below_alloc | apply pw_below_drewN | apply below_drew1) | exact HB.out)⟩

end Go.Proofs.YtomfdejamngkjaaDoor.Pr
