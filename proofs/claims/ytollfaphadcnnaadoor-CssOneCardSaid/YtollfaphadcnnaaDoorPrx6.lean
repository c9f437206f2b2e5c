/- Written by a program of this session (printa.py), with functions proved by hand counted as printed; Lean checks it. -/
import Derived.Test.YtollfaphadcnnaaDoorPrx0
import Derived.Test.YtollfaphadcnnaaDoorPrx5
namespace Go.Proofs.YtollfaphadcnnaaDoor.Pr
open Go.RowKit Go.Proofs.YtollfaphadcnnaaDoorW.PrintWords Go.Proofs.YtollfaphadcnnaaDoorW.PrintLast Go.Proofs.YtollfaphadcnnaaDoorW.PrintMore
attribute [local go_sem] max2_int min2_int max_two min_two max_three min_three max_four min_four   -- for this text's walks alone
set_option linter.unusedVariables false
set_option linter.unusedSimpArgs false

/-! ### muslinref17_Safe: function 17 -/
mutual
def muslinref17_Safe.j0 : Nat → ByteArray → Option (Bool)
  | 0, _ => none
  | k + 1, x1 => if (x1.size : Int) < 1 then (muslinref17_Safe.j1 k x1 true) else (muslinref17_Safe.j1 k x1 (decide ((x1.size : Int) > 100)))
def muslinref17_Safe.j1 : Nat → ByteArray → Bool → Option (Bool)
  | 0, _, _ => none
  | k + 1, x1, x53 => if x53 = true then (some false) else (muslinref17_Safe.l0 k x1 0)
def muslinref17_Safe.l0 : Nat → ByteArray → Int → Option (Bool)
  | 0, _, _ => none
  | k + 1, x1, x5 => if x5 < (x1.size : Int) then (if 0 ≤ x5 then (if (bt x1 x5) = 32 then (muslinref17_Safe.l0 k x1 (wrap64 (x5 + 1))) else (if (bt x1 x5) = 35 then (muslinref17_Safe.l0 k x1 (wrap64 (x5 + 1))) else (if (bt x1 x5) = 46 then (muslinref17_Safe.l0 k x1 (wrap64 (x5 + 1))) else (if (bt x1 x5) = 37 then (muslinref17_Safe.l0 k x1 (wrap64 (x5 + 1))) else (if (bt x1 x5) = 44 then (muslinref17_Safe.l0 k x1 (wrap64 (x5 + 1))) else (if (bt x1 x5) = 45 then (muslinref17_Safe.l0 k x1 (wrap64 (x5 + 1))) else (if (bt x1 x5) = 43 then (muslinref17_Safe.l0 k x1 (wrap64 (x5 + 1))) else (if (bt x1 x5) = 33 then (muslinref17_Safe.l0 k x1 (wrap64 (x5 + 1))) else ((muslinref03_Letter.f (bt x1 x5)).bind fun t155 => (if t155 = true then (muslinref17_Safe.l0 k x1 (wrap64 (x5 + 1))) else ((muslinref03_Digit.f (bt x1 x5)).bind fun t156 => (if t156 = true then (muslinref17_Safe.l0 k x1 (wrap64 (x5 + 1))) else (some false))))))))))))) else (none)) else (some true)
end
def muslinref17_Safe.f (k : Nat) (a0 : ByteArray) (a1 : ByteArray) : Option (Bool) := if a0.toList = ([98, 97, 99, 107, 103, 114, 111, 117, 110, 100, 45, 99, 111, 108, 111, 114] : List UInt8) then (muslinref17_Safe.j0 k a1) else (if a0.toList = ([98, 111, 114, 100, 101, 114] : List UInt8) then (muslinref17_Safe.j0 k a1) else (if a0.toList = ([98, 111, 114, 100, 101, 114, 45, 98, 111, 116, 116, 111, 109] : List UInt8) then (muslinref17_Safe.j0 k a1) else (if a0.toList = ([98, 111, 114, 100, 101, 114, 45, 99, 111, 108, 108, 97, 112, 115, 101] : List UInt8) then (muslinref17_Safe.j0 k a1) else (if a0.toList = ([98, 111, 114, 100, 101, 114, 45, 99, 111, 108, 111, 114] : List UInt8) then (muslinref17_Safe.j0 k a1) else (if a0.toList = ([98, 111, 114, 100, 101, 114, 45, 108, 101, 102, 116] : List UInt8) then (muslinref17_Safe.j0 k a1) else (if a0.toList = ([98, 111, 114, 100, 101, 114, 45, 114, 105, 103, 104, 116] : List UInt8) then (muslinref17_Safe.j0 k a1) else (if a0.toList = ([98, 111, 114, 100, 101, 114, 45, 115, 112, 97, 99, 105, 110, 103] : List UInt8) then (muslinref17_Safe.j0 k a1) else (if a0.toList = ([98, 111, 114, 100, 101, 114, 45, 115, 116, 121, 108, 101] : List UInt8) then (muslinref17_Safe.j0 k a1) else (if a0.toList = ([98, 111, 114, 100, 101, 114, 45, 116, 111, 112] : List UInt8) then (muslinref17_Safe.j0 k a1) else (if a0.toList = ([98, 111, 114, 100, 101, 114, 45, 119, 105, 100, 116, 104] : List UInt8) then (muslinref17_Safe.j0 k a1) else (if a0.toList = ([99, 111, 108, 111, 114] : List UInt8) then (muslinref17_Safe.j0 k a1) else (if a0.toList = ([100, 105, 114, 101, 99, 116, 105, 111, 110] : List UInt8) then (muslinref17_Safe.j0 k a1) else (if a0.toList = ([102, 111, 110, 116, 45, 115, 105, 122, 101] : List UInt8) then (muslinref17_Safe.j0 k a1) else (if a0.toList = ([102, 111, 110, 116, 45, 115, 116, 121, 108, 101] : List UInt8) then (muslinref17_Safe.j0 k a1) else (if a0.toList = ([102, 111, 110, 116, 45, 119, 101, 105, 103, 104, 116] : List UInt8) then (muslinref17_Safe.j0 k a1) else (if a0.toList = ([104, 101, 105, 103, 104, 116] : List UInt8) then (muslinref17_Safe.j0 k a1) else (if a0.toList = ([108, 101, 116, 116, 101, 114, 45, 115, 112, 97, 99, 105, 110, 103] : List UInt8) then (muslinref17_Safe.j0 k a1) else (if a0.toList = ([108, 105, 110, 101, 45, 104, 101, 105, 103, 104, 116] : List UInt8) then (muslinref17_Safe.j0 k a1) else (if a0.toList = ([108, 105, 115, 116, 45, 115, 116, 121, 108, 101, 45, 116, 121, 112, 101] : List UInt8) then (muslinref17_Safe.j0 k a1) else (if a0.toList = ([109, 97, 114, 103, 105, 110] : List UInt8) then (muslinref17_Safe.j0 k a1) else (if a0.toList = ([109, 97, 114, 103, 105, 110, 45, 98, 111, 116, 116, 111, 109] : List UInt8) then (muslinref17_Safe.j0 k a1) else (if a0.toList = ([109, 97, 114, 103, 105, 110, 45, 108, 101, 102, 116] : List UInt8) then (muslinref17_Safe.j0 k a1) else (if a0.toList = ([109, 97, 114, 103, 105, 110, 45, 114, 105, 103, 104, 116] : List UInt8) then (muslinref17_Safe.j0 k a1) else (if a0.toList = ([109, 97, 114, 103, 105, 110, 45, 116, 111, 112] : List UInt8) then (muslinref17_Safe.j0 k a1) else (if a0.toList = ([109, 97, 120, 45, 119, 105, 100, 116, 104] : List UInt8) then (muslinref17_Safe.j0 k a1) else (if a0.toList = ([112, 97, 100, 100, 105, 110, 103] : List UInt8) then (muslinref17_Safe.j0 k a1) else (if a0.toList = ([112, 97, 100, 100, 105, 110, 103, 45, 98, 111, 116, 116, 111, 109] : List UInt8) then (muslinref17_Safe.j0 k a1) else (if a0.toList = ([112, 97, 100, 100, 105, 110, 103, 45, 108, 101, 102, 116] : List UInt8) then (muslinref17_Safe.j0 k a1) else (if a0.toList = ([112, 97, 100, 100, 105, 110, 103, 45, 114, 105, 103, 104, 116] : List UInt8) then (muslinref17_Safe.j0 k a1) else (if a0.toList = ([112, 97, 100, 100, 105, 110, 103, 45, 116, 111, 112] : List UInt8) then (muslinref17_Safe.j0 k a1) else (if a0.toList = ([116, 101, 120, 116, 45, 97, 108, 105, 103, 110] : List UInt8) then (muslinref17_Safe.j0 k a1) else (if a0.toList = ([116, 101, 120, 116, 45, 100, 101, 99, 111, 114, 97, 116, 105, 111, 110] : List UInt8) then (muslinref17_Safe.j0 k a1) else (if a0.toList = ([116, 101, 120, 116, 45, 105, 110, 100, 101, 110, 116] : List UInt8) then (muslinref17_Safe.j0 k a1) else (if a0.toList = ([116, 101, 120, 116, 45, 116, 114, 97, 110, 115, 102, 111, 114, 109] : List UInt8) then (muslinref17_Safe.j0 k a1) else (if a0.toList = ([118, 101, 114, 116, 105, 99, 97, 108, 45, 97, 108, 105, 103, 110] : List UInt8) then (muslinref17_Safe.j0 k a1) else (if a0.toList = ([119, 104, 105, 116, 101, 45, 115, 112, 97, 99, 101] : List UInt8) then (muslinref17_Safe.j0 k a1) else (if a0.toList = ([119, 105, 100, 116, 104] : List UInt8) then (muslinref17_Safe.j0 k a1) else (some false))))))))))))))))))))))))))))))))))))))
theorem muslinref17_Safe.mono_l : ∀ k, (∀ y0, LeO (muslinref17_Safe.j0 k y0) (muslinref17_Safe.j0 (k + 1) y0)) ∧ (∀ y0 y1, LeO (muslinref17_Safe.j1 k y0 y1) (muslinref17_Safe.j1 (k + 1) y0 y1)) ∧ (∀ y0 y1, LeO (muslinref17_Safe.l0 k y0 y1) (muslinref17_Safe.l0 (k + 1) y0 y1))
  | 0 => ⟨fun _ r h => by simp [muslinref17_Safe.j0] at h, fun _ _ r h => by simp [muslinref17_Safe.j1] at h, fun _ _ r h => by simp [muslinref17_Safe.l0] at h⟩
  | k + 1 => by
    obtain ⟨ih0, ih1, ih2⟩ := muslinref17_Safe.mono_l k
    refine ⟨?_, ?_, ?_⟩
    · intro y0
      unfold muslinref17_Safe.j0
      repeat' first
      | (with_reducible exact ih0 _)
      | (with_reducible exact ih1 _ _)
      | (with_reducible exact ih2 _ _)
      | (with_reducible exact LeO.refl _)
      | (with_reducible exact LeO.none _)
      | (with_reducible refine LeO.ite ?_ ?_)
      | (with_reducible refine LeO.bind ?_ (fun _ => ?_))
      | exact ih0 _
      | exact ih1 _ _
      | exact ih2 _ _
      | exact LeO.none _
      | refine LeO.ite ?_ ?_
      | refine LeO.bind ?_ (fun _ => ?_)
    · intro y0 y1
      unfold muslinref17_Safe.j1
      repeat' first
      | (with_reducible exact ih0 _)
      | (with_reducible exact ih1 _ _)
      | (with_reducible exact ih2 _ _)
      | (with_reducible exact LeO.refl _)
      | (with_reducible exact LeO.none _)
      | (with_reducible refine LeO.ite ?_ ?_)
      | (with_reducible refine LeO.bind ?_ (fun _ => ?_))
      | exact ih0 _
      | exact ih1 _ _
      | exact ih2 _ _
      | exact LeO.none _
      | refine LeO.ite ?_ ?_
      | refine LeO.bind ?_ (fun _ => ?_)
    · intro y0 y1
      unfold muslinref17_Safe.l0
      repeat' first
      | (with_reducible exact ih0 _)
      | (with_reducible exact ih1 _ _)
      | (with_reducible exact ih2 _ _)
      | (with_reducible exact LeO.refl _)
      | (with_reducible exact LeO.none _)
      | (with_reducible refine LeO.ite ?_ ?_)
      | (with_reducible refine LeO.bind ?_ (fun _ => ?_))
      | exact ih0 _
      | exact ih1 _ _
      | exact ih2 _ _
      | exact LeO.none _
      | refine LeO.ite ?_ ?_
      | refine LeO.bind ?_ (fun _ => ?_)
theorem muslinref17_Safe.mono : ∀ a0 a1 k, LeO (muslinref17_Safe.f k a0 a1) (muslinref17_Safe.f (k + 1) a0 a1) := by
  intro a0 a1 k
  obtain ⟨ih0, ih1, ih2⟩ := muslinref17_Safe.mono_l k
  unfold muslinref17_Safe.f
  repeat' first
      | (with_reducible exact ih0 _)
      | (with_reducible exact ih1 _ _)
      | (with_reducible exact ih2 _ _)
      | (with_reducible exact LeO.refl _)
      | (with_reducible exact LeO.none _)
      | (with_reducible refine LeO.ite ?_ ?_)
      | (with_reducible refine LeO.bind ?_ (fun _ => ?_))
      | exact ih0 _
      | exact ih1 _ _
      | exact ih2 _ _
      | exact LeO.none _
      | refine LeO.ite ?_ ?_
      | refine LeO.bind ?_ (fun _ => ?_)
set_option maxHeartbeats 8000000 in
set_option maxRecDepth 100000 in
theorem muslinref17_Safe.calls (k : Nat) (a0 : ByteArray) (a1 : ByteArray) (r : Bool) (w : World) (h : muslinref17_Safe.f k a0 a1 = some r) :
    Calls Tryd.prog 17 #[.string a0, .string a1] w fun e w' => e = .returned (.bool r) ∧ Drawn0 w w' := by
  have H : (if a0.toList = ([98, 97, 99, 107, 103, 114, 111, 117, 110, 100, 45, 99, 111, 108, 111, 114] : List UInt8) then (muslinref17_Safe.j0 k a1) else (if a0.toList = ([98, 111, 114, 100, 101, 114] : List UInt8) then (muslinref17_Safe.j0 k a1) else (if a0.toList = ([98, 111, 114, 100, 101, 114, 45, 98, 111, 116, 116, 111, 109] : List UInt8) then (muslinref17_Safe.j0 k a1) else (if a0.toList = ([98, 111, 114, 100, 101, 114, 45, 99, 111, 108, 108, 97, 112, 115, 101] : List UInt8) then (muslinref17_Safe.j0 k a1) else (if a0.toList = ([98, 111, 114, 100, 101, 114, 45, 99, 111, 108, 111, 114] : List UInt8) then (muslinref17_Safe.j0 k a1) else (if a0.toList = ([98, 111, 114, 100, 101, 114, 45, 108, 101, 102, 116] : List UInt8) then (muslinref17_Safe.j0 k a1) else (if a0.toList = ([98, 111, 114, 100, 101, 114, 45, 114, 105, 103, 104, 116] : List UInt8) then (muslinref17_Safe.j0 k a1) else (if a0.toList = ([98, 111, 114, 100, 101, 114, 45, 115, 112, 97, 99, 105, 110, 103] : List UInt8) then (muslinref17_Safe.j0 k a1) else (if a0.toList = ([98, 111, 114, 100, 101, 114, 45, 115, 116, 121, 108, 101] : List UInt8) then (muslinref17_Safe.j0 k a1) else (if a0.toList = ([98, 111, 114, 100, 101, 114, 45, 116, 111, 112] : List UInt8) then (muslinref17_Safe.j0 k a1) else (if a0.toList = ([98, 111, 114, 100, 101, 114, 45, 119, 105, 100, 116, 104] : List UInt8) then (muslinref17_Safe.j0 k a1) else (if a0.toList = ([99, 111, 108, 111, 114] : List UInt8) then (muslinref17_Safe.j0 k a1) else (if a0.toList = ([100, 105, 114, 101, 99, 116, 105, 111, 110] : List UInt8) then (muslinref17_Safe.j0 k a1) else (if a0.toList = ([102, 111, 110, 116, 45, 115, 105, 122, 101] : List UInt8) then (muslinref17_Safe.j0 k a1) else (if a0.toList = ([102, 111, 110, 116, 45, 115, 116, 121, 108, 101] : List UInt8) then (muslinref17_Safe.j0 k a1) else (if a0.toList = ([102, 111, 110, 116, 45, 119, 101, 105, 103, 104, 116] : List UInt8) then (muslinref17_Safe.j0 k a1) else (if a0.toList = ([104, 101, 105, 103, 104, 116] : List UInt8) then (muslinref17_Safe.j0 k a1) else (if a0.toList = ([108, 101, 116, 116, 101, 114, 45, 115, 112, 97, 99, 105, 110, 103] : List UInt8) then (muslinref17_Safe.j0 k a1) else (if a0.toList = ([108, 105, 110, 101, 45, 104, 101, 105, 103, 104, 116] : List UInt8) then (muslinref17_Safe.j0 k a1) else (if a0.toList = ([108, 105, 115, 116, 45, 115, 116, 121, 108, 101, 45, 116, 121, 112, 101] : List UInt8) then (muslinref17_Safe.j0 k a1) else (if a0.toList = ([109, 97, 114, 103, 105, 110] : List UInt8) then (muslinref17_Safe.j0 k a1) else (if a0.toList = ([109, 97, 114, 103, 105, 110, 45, 98, 111, 116, 116, 111, 109] : List UInt8) then (muslinref17_Safe.j0 k a1) else (if a0.toList = ([109, 97, 114, 103, 105, 110, 45, 108, 101, 102, 116] : List UInt8) then (muslinref17_Safe.j0 k a1) else (if a0.toList = ([109, 97, 114, 103, 105, 110, 45, 114, 105, 103, 104, 116] : List UInt8) then (muslinref17_Safe.j0 k a1) else (if a0.toList = ([109, 97, 114, 103, 105, 110, 45, 116, 111, 112] : List UInt8) then (muslinref17_Safe.j0 k a1) else (if a0.toList = ([109, 97, 120, 45, 119, 105, 100, 116, 104] : List UInt8) then (muslinref17_Safe.j0 k a1) else (if a0.toList = ([112, 97, 100, 100, 105, 110, 103] : List UInt8) then (muslinref17_Safe.j0 k a1) else (if a0.toList = ([112, 97, 100, 100, 105, 110, 103, 45, 98, 111, 116, 116, 111, 109] : List UInt8) then (muslinref17_Safe.j0 k a1) else (if a0.toList = ([112, 97, 100, 100, 105, 110, 103, 45, 108, 101, 102, 116] : List UInt8) then (muslinref17_Safe.j0 k a1) else (if a0.toList = ([112, 97, 100, 100, 105, 110, 103, 45, 114, 105, 103, 104, 116] : List UInt8) then (muslinref17_Safe.j0 k a1) else (if a0.toList = ([112, 97, 100, 100, 105, 110, 103, 45, 116, 111, 112] : List UInt8) then (muslinref17_Safe.j0 k a1) else (if a0.toList = ([116, 101, 120, 116, 45, 97, 108, 105, 103, 110] : List UInt8) then (muslinref17_Safe.j0 k a1) else (if a0.toList = ([116, 101, 120, 116, 45, 100, 101, 99, 111, 114, 97, 116, 105, 111, 110] : List UInt8) then (muslinref17_Safe.j0 k a1) else (if a0.toList = ([116, 101, 120, 116, 45, 105, 110, 100, 101, 110, 116] : List UInt8) then (muslinref17_Safe.j0 k a1) else (if a0.toList = ([116, 101, 120, 116, 45, 116, 114, 97, 110, 115, 102, 111, 114, 109] : List UInt8) then (muslinref17_Safe.j0 k a1) else (if a0.toList = ([118, 101, 114, 116, 105, 99, 97, 108, 45, 97, 108, 105, 103, 110] : List UInt8) then (muslinref17_Safe.j0 k a1) else (if a0.toList = ([119, 104, 105, 116, 101, 45, 115, 112, 97, 99, 101] : List UInt8) then (muslinref17_Safe.j0 k a1) else (if a0.toList = ([119, 105, 100, 116, 104] : List UInt8) then (muslinref17_Safe.j0 k a1) else (some false))))))))))))))))))))))))))))))))))))))) = some r := h
  clear h
  have HC3 := Aside0.mk H
  clear H
  go_enter Tryd.func17, Tryd.ntmps17
  go_upto_block 0 with (fail)
  go_cut [] (fun wc => ∃ (kq : Nat), Aside0 (muslinref17_Safe.j0 kq a1 = some r) ∧ Aside0 (kq ≤ k) ∧ Drawn0 w wc)
  case first =>
    have H := HC3.out
    clear HC3
    by_cases c4 : a0.toList = ([98, 97, 99, 107, 103, 114, 111, 117, 110, 100, 45, 99, 111, 108, 111, 114] : List UInt8)
    · rw [if_pos c4] at H
      have c4b0 : (a0.toList == ([98, 97, 99, 107, 103, 114, 111, 117, 110, 100, 45, 99, 111, 108, 111, 114] : List UInt8)) = true := beq_iff_eq.mpr c4
      have c4b1 : (a0.toList != ([98, 97, 99, 107, 103, 114, 111, 117, 110, 100, 45, 99, 111, 108, 111, 114] : List UInt8)) = false := bne_eq_false_iff_eq.mpr c4
      clear c4
      (first | rw [c4b0] | (simp only [i64_w, i32_w]; rw [c4b0]) | rw [c4b1] | skip)
      have H' := Aside0.mk H
      clear H
      go_wp2
      go_meet
      case rel => exact ⟨_, H', ⟨by first | omega | exact Nat.le_refl _⟩, by repeat (first | exact Drawn0.refl _ | apply Drawn0.step)⟩
    · rw [if_neg c4] at H
      have c4b0 : (a0.toList == ([98, 97, 99, 107, 103, 114, 111, 117, 110, 100, 45, 99, 111, 108, 111, 114] : List UInt8)) = false := beq_eq_false_iff_ne.mpr c4
      have c4b1 : (a0.toList != ([98, 97, 99, 107, 103, 114, 111, 117, 110, 100, 45, 99, 111, 108, 111, 114] : List UInt8)) = true := bne_iff_ne.mpr c4
      (first | rw [c4b0] | (simp only [i64_w, i32_w]; rw [c4b0]) | rw [c4b1] | skip)
      by_cases c5 : a0.toList = ([98, 111, 114, 100, 101, 114] : List UInt8)
      · rw [if_pos c5] at H
        have c5b0 : (a0.toList == ([98, 111, 114, 100, 101, 114] : List UInt8)) = true := beq_iff_eq.mpr c5
        have c5b1 : (a0.toList != ([98, 111, 114, 100, 101, 114] : List UInt8)) = false := bne_eq_false_iff_eq.mpr c5
        clear c5
        have H' := Aside0.mk H
        clear H
        go_wp2
        go_meet
        case rel => exact ⟨_, H', ⟨by first | omega | exact Nat.le_refl _⟩, by repeat (first | exact Drawn0.refl _ | apply Drawn0.step)⟩
      · rw [if_neg c5] at H
        have c5b0 : (a0.toList == ([98, 111, 114, 100, 101, 114] : List UInt8)) = false := beq_eq_false_iff_ne.mpr c5
        have c5b1 : (a0.toList != ([98, 111, 114, 100, 101, 114] : List UInt8)) = true := bne_iff_ne.mpr c5
        by_cases c6 : a0.toList = ([98, 111, 114, 100, 101, 114, 45, 98, 111, 116, 116, 111, 109] : List UInt8)
        · rw [if_pos c6] at H
          have c6b0 : (a0.toList == ([98, 111, 114, 100, 101, 114, 45, 98, 111, 116, 116, 111, 109] : List UInt8)) = true := beq_iff_eq.mpr c6
          have c6b1 : (a0.toList != ([98, 111, 114, 100, 101, 114, 45, 98, 111, 116, 116, 111, 109] : List UInt8)) = false := bne_eq_false_iff_eq.mpr c6
          clear c6
          have H' := Aside0.mk H
          clear H
          go_wp2
          go_meet
          case rel => exact ⟨_, H', ⟨by first | omega | exact Nat.le_refl _⟩, by repeat (first | exact Drawn0.refl _ | apply Drawn0.step)⟩
        · rw [if_neg c6] at H
          have c6b0 : (a0.toList == ([98, 111, 114, 100, 101, 114, 45, 98, 111, 116, 116, 111, 109] : List UInt8)) = false := beq_eq_false_iff_ne.mpr c6
          have c6b1 : (a0.toList != ([98, 111, 114, 100, 101, 114, 45, 98, 111, 116, 116, 111, 109] : List UInt8)) = true := bne_iff_ne.mpr c6
          by_cases c7 : a0.toList = ([98, 111, 114, 100, 101, 114, 45, 99, 111, 108, 108, 97, 112, 115, 101] : List UInt8)
          · rw [if_pos c7] at H
            have c7b0 : (a0.toList == ([98, 111, 114, 100, 101, 114, 45, 99, 111, 108, 108, 97, 112, 115, 101] : List UInt8)) = true := beq_iff_eq.mpr c7
            have c7b1 : (a0.toList != ([98, 111, 114, 100, 101, 114, 45, 99, 111, 108, 108, 97, 112, 115, 101] : List UInt8)) = false := bne_eq_false_iff_eq.mpr c7
            clear c7
            have H' := Aside0.mk H
            clear H
            go_wp2
            go_meet
            case rel => exact ⟨_, H', ⟨by first | omega | exact Nat.le_refl _⟩, by repeat (first | exact Drawn0.refl _ | apply Drawn0.step)⟩
          · rw [if_neg c7] at H
            have c7b0 : (a0.toList == ([98, 111, 114, 100, 101, 114, 45, 99, 111, 108, 108, 97, 112, 115, 101] : List UInt8)) = false := beq_eq_false_iff_ne.mpr c7
            have c7b1 : (a0.toList != ([98, 111, 114, 100, 101, 114, 45, 99, 111, 108, 108, 97, 112, 115, 101] : List UInt8)) = true := bne_iff_ne.mpr c7
            by_cases c8 : a0.toList = ([98, 111, 114, 100, 101, 114, 45, 99, 111, 108, 111, 114] : List UInt8)
            · rw [if_pos c8] at H
              have c8b0 : (a0.toList == ([98, 111, 114, 100, 101, 114, 45, 99, 111, 108, 111, 114] : List UInt8)) = true := beq_iff_eq.mpr c8
              have c8b1 : (a0.toList != ([98, 111, 114, 100, 101, 114, 45, 99, 111, 108, 111, 114] : List UInt8)) = false := bne_eq_false_iff_eq.mpr c8
              clear c8
              have H' := Aside0.mk H
              clear H
              go_wp2
              go_meet
              case rel => exact ⟨_, H', ⟨by first | omega | exact Nat.le_refl _⟩, by repeat (first | exact Drawn0.refl _ | apply Drawn0.step)⟩
            · rw [if_neg c8] at H
              have c8b0 : (a0.toList == ([98, 111, 114, 100, 101, 114, 45, 99, 111, 108, 111, 114] : List UInt8)) = false := beq_eq_false_iff_ne.mpr c8
              have c8b1 : (a0.toList != ([98, 111, 114, 100, 101, 114, 45, 99, 111, 108, 111, 114] : List UInt8)) = true := bne_iff_ne.mpr c8
              by_cases c9 : a0.toList = ([98, 111, 114, 100, 101, 114, 45, 108, 101, 102, 116] : List UInt8)
              · rw [if_pos c9] at H
                have c9b0 : (a0.toList == ([98, 111, 114, 100, 101, 114, 45, 108, 101, 102, 116] : List UInt8)) = true := beq_iff_eq.mpr c9
                have c9b1 : (a0.toList != ([98, 111, 114, 100, 101, 114, 45, 108, 101, 102, 116] : List UInt8)) = false := bne_eq_false_iff_eq.mpr c9
                clear c9
                have H' := Aside0.mk H
                clear H
                go_wp2
                go_meet
                case rel => exact ⟨_, H', ⟨by first | omega | exact Nat.le_refl _⟩, by repeat (first | exact Drawn0.refl _ | apply Drawn0.step)⟩
              · rw [if_neg c9] at H
                have c9b0 : (a0.toList == ([98, 111, 114, 100, 101, 114, 45, 108, 101, 102, 116] : List UInt8)) = false := beq_eq_false_iff_ne.mpr c9
                have c9b1 : (a0.toList != ([98, 111, 114, 100, 101, 114, 45, 108, 101, 102, 116] : List UInt8)) = true := bne_iff_ne.mpr c9
                by_cases c10 : a0.toList = ([98, 111, 114, 100, 101, 114, 45, 114, 105, 103, 104, 116] : List UInt8)
                · rw [if_pos c10] at H
                  have c10b0 : (a0.toList == ([98, 111, 114, 100, 101, 114, 45, 114, 105, 103, 104, 116] : List UInt8)) = true := beq_iff_eq.mpr c10
                  have c10b1 : (a0.toList != ([98, 111, 114, 100, 101, 114, 45, 114, 105, 103, 104, 116] : List UInt8)) = false := bne_eq_false_iff_eq.mpr c10
                  clear c10
                  have H' := Aside0.mk H
                  clear H
                  go_wp2
                  go_meet
                  case rel => exact ⟨_, H', ⟨by first | omega | exact Nat.le_refl _⟩, by repeat (first | exact Drawn0.refl _ | apply Drawn0.step)⟩
                · rw [if_neg c10] at H
                  have c10b0 : (a0.toList == ([98, 111, 114, 100, 101, 114, 45, 114, 105, 103, 104, 116] : List UInt8)) = false := beq_eq_false_iff_ne.mpr c10
                  have c10b1 : (a0.toList != ([98, 111, 114, 100, 101, 114, 45, 114, 105, 103, 104, 116] : List UInt8)) = true := bne_iff_ne.mpr c10
                  by_cases c11 : a0.toList = ([98, 111, 114, 100, 101, 114, 45, 115, 112, 97, 99, 105, 110, 103] : List UInt8)
                  · rw [if_pos c11] at H
                    have c11b0 : (a0.toList == ([98, 111, 114, 100, 101, 114, 45, 115, 112, 97, 99, 105, 110, 103] : List UInt8)) = true := beq_iff_eq.mpr c11
                    have c11b1 : (a0.toList != ([98, 111, 114, 100, 101, 114, 45, 115, 112, 97, 99, 105, 110, 103] : List UInt8)) = false := bne_eq_false_iff_eq.mpr c11
                    clear c11
                    have H' := Aside0.mk H
                    clear H
                    go_wp2
                    go_meet
                    case rel => exact ⟨_, H', ⟨by first | omega | exact Nat.le_refl _⟩, by repeat (first | exact Drawn0.refl _ | apply Drawn0.step)⟩
                  · rw [if_neg c11] at H
                    have c11b0 : (a0.toList == ([98, 111, 114, 100, 101, 114, 45, 115, 112, 97, 99, 105, 110, 103] : List UInt8)) = false := beq_eq_false_iff_ne.mpr c11
                    have c11b1 : (a0.toList != ([98, 111, 114, 100, 101, 114, 45, 115, 112, 97, 99, 105, 110, 103] : List UInt8)) = true := bne_iff_ne.mpr c11
                    by_cases c12 : a0.toList = ([98, 111, 114, 100, 101, 114, 45, 115, 116, 121, 108, 101] : List UInt8)
                    · rw [if_pos c12] at H
                      have c12b0 : (a0.toList == ([98, 111, 114, 100, 101, 114, 45, 115, 116, 121, 108, 101] : List UInt8)) = true := beq_iff_eq.mpr c12
                      have c12b1 : (a0.toList != ([98, 111, 114, 100, 101, 114, 45, 115, 116, 121, 108, 101] : List UInt8)) = false := bne_eq_false_iff_eq.mpr c12
                      clear c12
                      have H' := Aside0.mk H
                      clear H
                      go_wp2
                      go_meet
                      case rel => exact ⟨_, H', ⟨by first | omega | exact Nat.le_refl _⟩, by repeat (first | exact Drawn0.refl _ | apply Drawn0.step)⟩
                    · rw [if_neg c12] at H
                      have c12b0 : (a0.toList == ([98, 111, 114, 100, 101, 114, 45, 115, 116, 121, 108, 101] : List UInt8)) = false := beq_eq_false_iff_ne.mpr c12
                      have c12b1 : (a0.toList != ([98, 111, 114, 100, 101, 114, 45, 115, 116, 121, 108, 101] : List UInt8)) = true := bne_iff_ne.mpr c12
                      by_cases c13 : a0.toList = ([98, 111, 114, 100, 101, 114, 45, 116, 111, 112] : List UInt8)
                      · rw [if_pos c13] at H
                        have c13b0 : (a0.toList == ([98, 111, 114, 100, 101, 114, 45, 116, 111, 112] : List UInt8)) = true := beq_iff_eq.mpr c13
                        have c13b1 : (a0.toList != ([98, 111, 114, 100, 101, 114, 45, 116, 111, 112] : List UInt8)) = false := bne_eq_false_iff_eq.mpr c13
                        clear c13
                        have H' := Aside0.mk H
                        clear H
                        go_wp2
                        go_meet
                        case rel => exact ⟨_, H', ⟨by first | omega | exact Nat.le_refl _⟩, by repeat (first | exact Drawn0.refl _ | apply Drawn0.step)⟩
                      · rw [if_neg c13] at H
                        have c13b0 : (a0.toList == ([98, 111, 114, 100, 101, 114, 45, 116, 111, 112] : List UInt8)) = false := beq_eq_false_iff_ne.mpr c13
                        have c13b1 : (a0.toList != ([98, 111, 114, 100, 101, 114, 45, 116, 111, 112] : List UInt8)) = true := bne_iff_ne.mpr c13
                        by_cases c14 : a0.toList = ([98, 111, 114, 100, 101, 114, 45, 119, 105, 100, 116, 104] : List UInt8)
                        · rw [if_pos c14] at H
                          have c14b0 : (a0.toList == ([98, 111, 114, 100, 101, 114, 45, 119, 105, 100, 116, 104] : List UInt8)) = true := beq_iff_eq.mpr c14
                          have c14b1 : (a0.toList != ([98, 111, 114, 100, 101, 114, 45, 119, 105, 100, 116, 104] : List UInt8)) = false := bne_eq_false_iff_eq.mpr c14
                          clear c14
                          have H' := Aside0.mk H
                          clear H
                          go_wp2
                          go_meet
                          case rel => exact ⟨_, H', ⟨by first | omega | exact Nat.le_refl _⟩, by repeat (first | exact Drawn0.refl _ | apply Drawn0.step)⟩
                        · rw [if_neg c14] at H
                          have c14b0 : (a0.toList == ([98, 111, 114, 100, 101, 114, 45, 119, 105, 100, 116, 104] : List UInt8)) = false := beq_eq_false_iff_ne.mpr c14
                          have c14b1 : (a0.toList != ([98, 111, 114, 100, 101, 114, 45, 119, 105, 100, 116, 104] : List UInt8)) = true := bne_iff_ne.mpr c14
                          by_cases c15 : a0.toList = ([99, 111, 108, 111, 114] : List UInt8)
                          · rw [if_pos c15] at H
                            have c15b0 : (a0.toList == ([99, 111, 108, 111, 114] : List UInt8)) = true := beq_iff_eq.mpr c15
                            have c15b1 : (a0.toList != ([99, 111, 108, 111, 114] : List UInt8)) = false := bne_eq_false_iff_eq.mpr c15
                            clear c15
                            have H' := Aside0.mk H
                            clear H
                            go_wp2
                            go_meet
                            case rel => exact ⟨_, H', ⟨by first | omega | exact Nat.le_refl _⟩, by repeat (first | exact Drawn0.refl _ | apply Drawn0.step)⟩
                          · rw [if_neg c15] at H
                            have c15b0 : (a0.toList == ([99, 111, 108, 111, 114] : List UInt8)) = false := beq_eq_false_iff_ne.mpr c15
                            have c15b1 : (a0.toList != ([99, 111, 108, 111, 114] : List UInt8)) = true := bne_iff_ne.mpr c15
                            by_cases c16 : a0.toList = ([100, 105, 114, 101, 99, 116, 105, 111, 110] : List UInt8)
                            · rw [if_pos c16] at H
                              have c16b0 : (a0.toList == ([100, 105, 114, 101, 99, 116, 105, 111, 110] : List UInt8)) = true := beq_iff_eq.mpr c16
                              have c16b1 : (a0.toList != ([100, 105, 114, 101, 99, 116, 105, 111, 110] : List UInt8)) = false := bne_eq_false_iff_eq.mpr c16
                              clear c16
                              have H' := Aside0.mk H
                              clear H
                              go_wp2
                              go_meet
                              case rel => exact ⟨_, H', ⟨by first | omega | exact Nat.le_refl _⟩, by repeat (first | exact Drawn0.refl _ | apply Drawn0.step)⟩
                            · rw [if_neg c16] at H
                              have c16b0 : (a0.toList == ([100, 105, 114, 101, 99, 116, 105, 111, 110] : List UInt8)) = false := beq_eq_false_iff_ne.mpr c16
                              have c16b1 : (a0.toList != ([100, 105, 114, 101, 99, 116, 105, 111, 110] : List UInt8)) = true := bne_iff_ne.mpr c16
                              by_cases c17 : a0.toList = ([102, 111, 110, 116, 45, 115, 105, 122, 101] : List UInt8)
                              · rw [if_pos c17] at H
                                have c17b0 : (a0.toList == ([102, 111, 110, 116, 45, 115, 105, 122, 101] : List UInt8)) = true := beq_iff_eq.mpr c17
                                have c17b1 : (a0.toList != ([102, 111, 110, 116, 45, 115, 105, 122, 101] : List UInt8)) = false := bne_eq_false_iff_eq.mpr c17
                                clear c17
                                have H' := Aside0.mk H
                                clear H
                                go_wp2
                                go_meet
                                case rel => exact ⟨_, H', ⟨by first | omega | exact Nat.le_refl _⟩, by repeat (first | exact Drawn0.refl _ | apply Drawn0.step)⟩
                              · rw [if_neg c17] at H
                                have c17b0 : (a0.toList == ([102, 111, 110, 116, 45, 115, 105, 122, 101] : List UInt8)) = false := beq_eq_false_iff_ne.mpr c17
                                have c17b1 : (a0.toList != ([102, 111, 110, 116, 45, 115, 105, 122, 101] : List UInt8)) = true := bne_iff_ne.mpr c17
                                by_cases c18 : a0.toList = ([102, 111, 110, 116, 45, 115, 116, 121, 108, 101] : List UInt8)
                                · rw [if_pos c18] at H
                                  have c18b0 : (a0.toList == ([102, 111, 110, 116, 45, 115, 116, 121, 108, 101] : List UInt8)) = true := beq_iff_eq.mpr c18
                                  have c18b1 : (a0.toList != ([102, 111, 110, 116, 45, 115, 116, 121, 108, 101] : List UInt8)) = false := bne_eq_false_iff_eq.mpr c18
                                  clear c18
                                  have H' := Aside0.mk H
                                  clear H
                                  go_wp2
                                  go_meet
                                  case rel => exact ⟨_, H', ⟨by first | omega | exact Nat.le_refl _⟩, by repeat (first | exact Drawn0.refl _ | apply Drawn0.step)⟩
                                · rw [if_neg c18] at H
                                  have c18b0 : (a0.toList == ([102, 111, 110, 116, 45, 115, 116, 121, 108, 101] : List UInt8)) = false := beq_eq_false_iff_ne.mpr c18
                                  have c18b1 : (a0.toList != ([102, 111, 110, 116, 45, 115, 116, 121, 108, 101] : List UInt8)) = true := bne_iff_ne.mpr c18
                                  by_cases c19 : a0.toList = ([102, 111, 110, 116, 45, 119, 101, 105, 103, 104, 116] : List UInt8)
                                  · rw [if_pos c19] at H
                                    have c19b0 : (a0.toList == ([102, 111, 110, 116, 45, 119, 101, 105, 103, 104, 116] : List UInt8)) = true := beq_iff_eq.mpr c19
                                    have c19b1 : (a0.toList != ([102, 111, 110, 116, 45, 119, 101, 105, 103, 104, 116] : List UInt8)) = false := bne_eq_false_iff_eq.mpr c19
                                    clear c19
                                    have H' := Aside0.mk H
                                    clear H
                                    go_wp2
                                    go_meet
                                    case rel => exact ⟨_, H', ⟨by first | omega | exact Nat.le_refl _⟩, by repeat (first | exact Drawn0.refl _ | apply Drawn0.step)⟩
                                  · rw [if_neg c19] at H
                                    have c19b0 : (a0.toList == ([102, 111, 110, 116, 45, 119, 101, 105, 103, 104, 116] : List UInt8)) = false := beq_eq_false_iff_ne.mpr c19
                                    have c19b1 : (a0.toList != ([102, 111, 110, 116, 45, 119, 101, 105, 103, 104, 116] : List UInt8)) = true := bne_iff_ne.mpr c19
                                    by_cases c20 : a0.toList = ([104, 101, 105, 103, 104, 116] : List UInt8)
                                    · rw [if_pos c20] at H
                                      have c20b0 : (a0.toList == ([104, 101, 105, 103, 104, 116] : List UInt8)) = true := beq_iff_eq.mpr c20
                                      have c20b1 : (a0.toList != ([104, 101, 105, 103, 104, 116] : List UInt8)) = false := bne_eq_false_iff_eq.mpr c20
                                      clear c20
                                      have H' := Aside0.mk H
                                      clear H
                                      go_wp2
                                      go_meet
                                      case rel => exact ⟨_, H', ⟨by first | omega | exact Nat.le_refl _⟩, by repeat (first | exact Drawn0.refl _ | apply Drawn0.step)⟩
                                    · rw [if_neg c20] at H
                                      have c20b0 : (a0.toList == ([104, 101, 105, 103, 104, 116] : List UInt8)) = false := beq_eq_false_iff_ne.mpr c20
                                      have c20b1 : (a0.toList != ([104, 101, 105, 103, 104, 116] : List UInt8)) = true := bne_iff_ne.mpr c20
                                      by_cases c21 : a0.toList = ([108, 101, 116, 116, 101, 114, 45, 115, 112, 97, 99, 105, 110, 103] : List UInt8)
                                      · rw [if_pos c21] at H
                                        have c21b0 : (a0.toList == ([108, 101, 116, 116, 101, 114, 45, 115, 112, 97, 99, 105, 110, 103] : List UInt8)) = true := beq_iff_eq.mpr c21
                                        have c21b1 : (a0.toList != ([108, 101, 116, 116, 101, 114, 45, 115, 112, 97, 99, 105, 110, 103] : List UInt8)) = false := bne_eq_false_iff_eq.mpr c21
                                        clear c21
                                        have H' := Aside0.mk H
                                        clear H
                                        go_wp2
                                        go_meet
                                        case rel => exact ⟨_, H', ⟨by first | omega | exact Nat.le_refl _⟩, by repeat (first | exact Drawn0.refl _ | apply Drawn0.step)⟩
                                      · rw [if_neg c21] at H
                                        have c21b0 : (a0.toList == ([108, 101, 116, 116, 101, 114, 45, 115, 112, 97, 99, 105, 110, 103] : List UInt8)) = false := beq_eq_false_iff_ne.mpr c21
                                        have c21b1 : (a0.toList != ([108, 101, 116, 116, 101, 114, 45, 115, 112, 97, 99, 105, 110, 103] : List UInt8)) = true := bne_iff_ne.mpr c21
                                        by_cases c22 : a0.toList = ([108, 105, 110, 101, 45, 104, 101, 105, 103, 104, 116] : List UInt8)
                                        · rw [if_pos c22] at H
                                          have c22b0 : (a0.toList == ([108, 105, 110, 101, 45, 104, 101, 105, 103, 104, 116] : List UInt8)) = true := beq_iff_eq.mpr c22
                                          have c22b1 : (a0.toList != ([108, 105, 110, 101, 45, 104, 101, 105, 103, 104, 116] : List UInt8)) = false := bne_eq_false_iff_eq.mpr c22
                                          clear c22
                                          have H' := Aside0.mk H
                                          clear H
                                          go_wp2
                                          go_meet
                                          case rel => exact ⟨_, H', ⟨by first | omega | exact Nat.le_refl _⟩, by repeat (first | exact Drawn0.refl _ | apply Drawn0.step)⟩
                                        · rw [if_neg c22] at H
                                          have c22b0 : (a0.toList == ([108, 105, 110, 101, 45, 104, 101, 105, 103, 104, 116] : List UInt8)) = false := beq_eq_false_iff_ne.mpr c22
                                          have c22b1 : (a0.toList != ([108, 105, 110, 101, 45, 104, 101, 105, 103, 104, 116] : List UInt8)) = true := bne_iff_ne.mpr c22
                                          by_cases c23 : a0.toList = ([108, 105, 115, 116, 45, 115, 116, 121, 108, 101, 45, 116, 121, 112, 101] : List UInt8)
                                          · rw [if_pos c23] at H
                                            have c23b0 : (a0.toList == ([108, 105, 115, 116, 45, 115, 116, 121, 108, 101, 45, 116, 121, 112, 101] : List UInt8)) = true := beq_iff_eq.mpr c23
                                            have c23b1 : (a0.toList != ([108, 105, 115, 116, 45, 115, 116, 121, 108, 101, 45, 116, 121, 112, 101] : List UInt8)) = false := bne_eq_false_iff_eq.mpr c23
                                            clear c23
                                            have H' := Aside0.mk H
                                            clear H
                                            go_wp2
                                            go_meet
                                            case rel => exact ⟨_, H', ⟨by first | omega | exact Nat.le_refl _⟩, by repeat (first | exact Drawn0.refl _ | apply Drawn0.step)⟩
                                          · rw [if_neg c23] at H
                                            have c23b0 : (a0.toList == ([108, 105, 115, 116, 45, 115, 116, 121, 108, 101, 45, 116, 121, 112, 101] : List UInt8)) = false := beq_eq_false_iff_ne.mpr c23
                                            have c23b1 : (a0.toList != ([108, 105, 115, 116, 45, 115, 116, 121, 108, 101, 45, 116, 121, 112, 101] : List UInt8)) = true := bne_iff_ne.mpr c23
                                            by_cases c24 : a0.toList = ([109, 97, 114, 103, 105, 110] : List UInt8)
                                            · rw [if_pos c24] at H
                                              have c24b0 : (a0.toList == ([109, 97, 114, 103, 105, 110] : List UInt8)) = true := beq_iff_eq.mpr c24
                                              have c24b1 : (a0.toList != ([109, 97, 114, 103, 105, 110] : List UInt8)) = false := bne_eq_false_iff_eq.mpr c24
                                              clear c24
                                              have H' := Aside0.mk H
                                              clear H
                                              go_wp2
                                              go_meet
                                              case rel => exact ⟨_, H', ⟨by first | omega | exact Nat.le_refl _⟩, by repeat (first | exact Drawn0.refl _ | apply Drawn0.step)⟩
                                            · rw [if_neg c24] at H
                                              have c24b0 : (a0.toList == ([109, 97, 114, 103, 105, 110] : List UInt8)) = false := beq_eq_false_iff_ne.mpr c24
                                              have c24b1 : (a0.toList != ([109, 97, 114, 103, 105, 110] : List UInt8)) = true := bne_iff_ne.mpr c24
                                              by_cases c25 : a0.toList = ([109, 97, 114, 103, 105, 110, 45, 98, 111, 116, 116, 111, 109] : List UInt8)
                                              · rw [if_pos c25] at H
                                                have c25b0 : (a0.toList == ([109, 97, 114, 103, 105, 110, 45, 98, 111, 116, 116, 111, 109] : List UInt8)) = true := beq_iff_eq.mpr c25
                                                have c25b1 : (a0.toList != ([109, 97, 114, 103, 105, 110, 45, 98, 111, 116, 116, 111, 109] : List UInt8)) = false := bne_eq_false_iff_eq.mpr c25
                                                clear c25
                                                have H' := Aside0.mk H
                                                clear H
                                                go_wp2
                                                go_meet
                                                case rel => exact ⟨_, H', ⟨by first | omega | exact Nat.le_refl _⟩, by repeat (first | exact Drawn0.refl _ | apply Drawn0.step)⟩
                                              · rw [if_neg c25] at H
                                                have c25b0 : (a0.toList == ([109, 97, 114, 103, 105, 110, 45, 98, 111, 116, 116, 111, 109] : List UInt8)) = false := beq_eq_false_iff_ne.mpr c25
                                                have c25b1 : (a0.toList != ([109, 97, 114, 103, 105, 110, 45, 98, 111, 116, 116, 111, 109] : List UInt8)) = true := bne_iff_ne.mpr c25
                                                by_cases c26 : a0.toList = ([109, 97, 114, 103, 105, 110, 45, 108, 101, 102, 116] : List UInt8)
                                                · rw [if_pos c26] at H
                                                  have c26b0 : (a0.toList == ([109, 97, 114, 103, 105, 110, 45, 108, 101, 102, 116] : List UInt8)) = true := beq_iff_eq.mpr c26
                                                  have c26b1 : (a0.toList != ([109, 97, 114, 103, 105, 110, 45, 108, 101, 102, 116] : List UInt8)) = false := bne_eq_false_iff_eq.mpr c26
                                                  clear c26
                                                  have H' := Aside0.mk H
                                                  clear H
                                                  go_wp2
                                                  go_meet
                                                  case rel => exact ⟨_, H', ⟨by first | omega | exact Nat.le_refl _⟩, by repeat (first | exact Drawn0.refl _ | apply Drawn0.step)⟩
                                                · rw [if_neg c26] at H
                                                  have c26b0 : (a0.toList == ([109, 97, 114, 103, 105, 110, 45, 108, 101, 102, 116] : List UInt8)) = false := beq_eq_false_iff_ne.mpr c26
                                                  have c26b1 : (a0.toList != ([109, 97, 114, 103, 105, 110, 45, 108, 101, 102, 116] : List UInt8)) = true := bne_iff_ne.mpr c26
                                                  by_cases c27 : a0.toList = ([109, 97, 114, 103, 105, 110, 45, 114, 105, 103, 104, 116] : List UInt8)
                                                  · rw [if_pos c27] at H
                                                    have c27b0 : (a0.toList == ([109, 97, 114, 103, 105, 110, 45, 114, 105, 103, 104, 116] : List UInt8)) = true := beq_iff_eq.mpr c27
                                                    have c27b1 : (a0.toList != ([109, 97, 114, 103, 105, 110, 45, 114, 105, 103, 104, 116] : List UInt8)) = false := bne_eq_false_iff_eq.mpr c27
                                                    clear c27
                                                    have H' := Aside0.mk H
                                                    clear H
                                                    go_wp2
                                                    go_meet
                                                    case rel => exact ⟨_, H', ⟨by first | omega | exact Nat.le_refl _⟩, by repeat (first | exact Drawn0.refl _ | apply Drawn0.step)⟩
                                                  · rw [if_neg c27] at H
                                                    have c27b0 : (a0.toList == ([109, 97, 114, 103, 105, 110, 45, 114, 105, 103, 104, 116] : List UInt8)) = false := beq_eq_false_iff_ne.mpr c27
                                                    have c27b1 : (a0.toList != ([109, 97, 114, 103, 105, 110, 45, 114, 105, 103, 104, 116] : List UInt8)) = true := bne_iff_ne.mpr c27
                                                    by_cases c28 : a0.toList = ([109, 97, 114, 103, 105, 110, 45, 116, 111, 112] : List UInt8)
                                                    · rw [if_pos c28] at H
                                                      have c28b0 : (a0.toList == ([109, 97, 114, 103, 105, 110, 45, 116, 111, 112] : List UInt8)) = true := beq_iff_eq.mpr c28
                                                      have c28b1 : (a0.toList != ([109, 97, 114, 103, 105, 110, 45, 116, 111, 112] : List UInt8)) = false := bne_eq_false_iff_eq.mpr c28
                                                      clear c28
                                                      have H' := Aside0.mk H
                                                      clear H
                                                      go_wp2
                                                      go_meet
                                                      case rel => exact ⟨_, H', ⟨by first | omega | exact Nat.le_refl _⟩, by repeat (first | exact Drawn0.refl _ | apply Drawn0.step)⟩
                                                    · rw [if_neg c28] at H
                                                      have c28b0 : (a0.toList == ([109, 97, 114, 103, 105, 110, 45, 116, 111, 112] : List UInt8)) = false := beq_eq_false_iff_ne.mpr c28
                                                      have c28b1 : (a0.toList != ([109, 97, 114, 103, 105, 110, 45, 116, 111, 112] : List UInt8)) = true := bne_iff_ne.mpr c28
                                                      by_cases c29 : a0.toList = ([109, 97, 120, 45, 119, 105, 100, 116, 104] : List UInt8)
                                                      · rw [if_pos c29] at H
                                                        have c29b0 : (a0.toList == ([109, 97, 120, 45, 119, 105, 100, 116, 104] : List UInt8)) = true := beq_iff_eq.mpr c29
                                                        have c29b1 : (a0.toList != ([109, 97, 120, 45, 119, 105, 100, 116, 104] : List UInt8)) = false := bne_eq_false_iff_eq.mpr c29
                                                        clear c29
                                                        have H' := Aside0.mk H
                                                        clear H
                                                        go_wp2
                                                        go_meet
                                                        case rel => exact ⟨_, H', ⟨by first | omega | exact Nat.le_refl _⟩, by repeat (first | exact Drawn0.refl _ | apply Drawn0.step)⟩
                                                      · rw [if_neg c29] at H
                                                        have c29b0 : (a0.toList == ([109, 97, 120, 45, 119, 105, 100, 116, 104] : List UInt8)) = false := beq_eq_false_iff_ne.mpr c29
                                                        have c29b1 : (a0.toList != ([109, 97, 120, 45, 119, 105, 100, 116, 104] : List UInt8)) = true := bne_iff_ne.mpr c29
                                                        by_cases c30 : a0.toList = ([112, 97, 100, 100, 105, 110, 103] : List UInt8)
                                                        · rw [if_pos c30] at H
                                                          have c30b0 : (a0.toList == ([112, 97, 100, 100, 105, 110, 103] : List UInt8)) = true := beq_iff_eq.mpr c30
                                                          have c30b1 : (a0.toList != ([112, 97, 100, 100, 105, 110, 103] : List UInt8)) = false := bne_eq_false_iff_eq.mpr c30
                                                          clear c30
                                                          have H' := Aside0.mk H
                                                          clear H
                                                          go_wp2
                                                          go_meet
                                                          case rel => exact ⟨_, H', ⟨by first | omega | exact Nat.le_refl _⟩, by repeat (first | exact Drawn0.refl _ | apply Drawn0.step)⟩
                                                        · rw [if_neg c30] at H
                                                          have c30b0 : (a0.toList == ([112, 97, 100, 100, 105, 110, 103] : List UInt8)) = false := beq_eq_false_iff_ne.mpr c30
                                                          have c30b1 : (a0.toList != ([112, 97, 100, 100, 105, 110, 103] : List UInt8)) = true := bne_iff_ne.mpr c30
                                                          by_cases c31 : a0.toList = ([112, 97, 100, 100, 105, 110, 103, 45, 98, 111, 116, 116, 111, 109] : List UInt8)
                                                          · rw [if_pos c31] at H
                                                            have c31b0 : (a0.toList == ([112, 97, 100, 100, 105, 110, 103, 45, 98, 111, 116, 116, 111, 109] : List UInt8)) = true := beq_iff_eq.mpr c31
                                                            have c31b1 : (a0.toList != ([112, 97, 100, 100, 105, 110, 103, 45, 98, 111, 116, 116, 111, 109] : List UInt8)) = false := bne_eq_false_iff_eq.mpr c31
                                                            clear c31
                                                            have H' := Aside0.mk H
                                                            clear H
                                                            go_wp2
                                                            go_meet
                                                            case rel => exact ⟨_, H', ⟨by first | omega | exact Nat.le_refl _⟩, by repeat (first | exact Drawn0.refl _ | apply Drawn0.step)⟩
                                                          · rw [if_neg c31] at H
                                                            have c31b0 : (a0.toList == ([112, 97, 100, 100, 105, 110, 103, 45, 98, 111, 116, 116, 111, 109] : List UInt8)) = false := beq_eq_false_iff_ne.mpr c31
                                                            have c31b1 : (a0.toList != ([112, 97, 100, 100, 105, 110, 103, 45, 98, 111, 116, 116, 111, 109] : List UInt8)) = true := bne_iff_ne.mpr c31
                                                            by_cases c32 : a0.toList = ([112, 97, 100, 100, 105, 110, 103, 45, 108, 101, 102, 116] : List UInt8)
                                                            · rw [if_pos c32] at H
                                                              have c32b0 : (a0.toList == ([112, 97, 100, 100, 105, 110, 103, 45, 108, 101, 102, 116] : List UInt8)) = true := beq_iff_eq.mpr c32
                                                              have c32b1 : (a0.toList != ([112, 97, 100, 100, 105, 110, 103, 45, 108, 101, 102, 116] : List UInt8)) = false := bne_eq_false_iff_eq.mpr c32
                                                              clear c32
                                                              have H' := Aside0.mk H
                                                              clear H
                                                              go_wp2
                                                              go_meet
                                                              case rel => exact ⟨_, H', ⟨by first | omega | exact Nat.le_refl _⟩, by repeat (first | exact Drawn0.refl _ | apply Drawn0.step)⟩
                                                            · rw [if_neg c32] at H
                                                              have c32b0 : (a0.toList == ([112, 97, 100, 100, 105, 110, 103, 45, 108, 101, 102, 116] : List UInt8)) = false := beq_eq_false_iff_ne.mpr c32
                                                              have c32b1 : (a0.toList != ([112, 97, 100, 100, 105, 110, 103, 45, 108, 101, 102, 116] : List UInt8)) = true := bne_iff_ne.mpr c32
                                                              by_cases c33 : a0.toList = ([112, 97, 100, 100, 105, 110, 103, 45, 114, 105, 103, 104, 116] : List UInt8)
                                                              · rw [if_pos c33] at H
                                                                have c33b0 : (a0.toList == ([112, 97, 100, 100, 105, 110, 103, 45, 114, 105, 103, 104, 116] : List UInt8)) = true := beq_iff_eq.mpr c33
                                                                have c33b1 : (a0.toList != ([112, 97, 100, 100, 105, 110, 103, 45, 114, 105, 103, 104, 116] : List UInt8)) = false := bne_eq_false_iff_eq.mpr c33
                                                                clear c33
                                                                have H' := Aside0.mk H
                                                                clear H
                                                                go_wp2
                                                                go_meet
                                                                case rel => exact ⟨_, H', ⟨by first | omega | exact Nat.le_refl _⟩, by repeat (first | exact Drawn0.refl _ | apply Drawn0.step)⟩
                                                              · rw [if_neg c33] at H
                                                                have c33b0 : (a0.toList == ([112, 97, 100, 100, 105, 110, 103, 45, 114, 105, 103, 104, 116] : List UInt8)) = false := beq_eq_false_iff_ne.mpr c33
                                                                have c33b1 : (a0.toList != ([112, 97, 100, 100, 105, 110, 103, 45, 114, 105, 103, 104, 116] : List UInt8)) = true := bne_iff_ne.mpr c33
                                                                by_cases c34 : a0.toList = ([112, 97, 100, 100, 105, 110, 103, 45, 116, 111, 112] : List UInt8)
                                                                · rw [if_pos c34] at H
                                                                  have c34b0 : (a0.toList == ([112, 97, 100, 100, 105, 110, 103, 45, 116, 111, 112] : List UInt8)) = true := beq_iff_eq.mpr c34
                                                                  have c34b1 : (a0.toList != ([112, 97, 100, 100, 105, 110, 103, 45, 116, 111, 112] : List UInt8)) = false := bne_eq_false_iff_eq.mpr c34
                                                                  clear c34
                                                                  have H' := Aside0.mk H
                                                                  clear H
                                                                  go_wp2
                                                                  go_meet
                                                                  case rel => exact ⟨_, H', ⟨by first | omega | exact Nat.le_refl _⟩, by repeat (first | exact Drawn0.refl _ | apply Drawn0.step)⟩
                                                                · rw [if_neg c34] at H
                                                                  have c34b0 : (a0.toList == ([112, 97, 100, 100, 105, 110, 103, 45, 116, 111, 112] : List UInt8)) = false := beq_eq_false_iff_ne.mpr c34
                                                                  have c34b1 : (a0.toList != ([112, 97, 100, 100, 105, 110, 103, 45, 116, 111, 112] : List UInt8)) = true := bne_iff_ne.mpr c34
                                                                  by_cases c35 : a0.toList = ([116, 101, 120, 116, 45, 97, 108, 105, 103, 110] : List UInt8)
                                                                  · rw [if_pos c35] at H
                                                                    have c35b0 : (a0.toList == ([116, 101, 120, 116, 45, 97, 108, 105, 103, 110] : List UInt8)) = true := beq_iff_eq.mpr c35
                                                                    have c35b1 : (a0.toList != ([116, 101, 120, 116, 45, 97, 108, 105, 103, 110] : List UInt8)) = false := bne_eq_false_iff_eq.mpr c35
                                                                    clear c35
                                                                    have H' := Aside0.mk H
                                                                    clear H
                                                                    go_wp2
                                                                    go_meet
                                                                    case rel => exact ⟨_, H', ⟨by first | omega | exact Nat.le_refl _⟩, by repeat (first | exact Drawn0.refl _ | apply Drawn0.step)⟩
                                                                  · rw [if_neg c35] at H
                                                                    have c35b0 : (a0.toList == ([116, 101, 120, 116, 45, 97, 108, 105, 103, 110] : List UInt8)) = false := beq_eq_false_iff_ne.mpr c35
                                                                    have c35b1 : (a0.toList != ([116, 101, 120, 116, 45, 97, 108, 105, 103, 110] : List UInt8)) = true := bne_iff_ne.mpr c35
                                                                    by_cases c36 : a0.toList = ([116, 101, 120, 116, 45, 100, 101, 99, 111, 114, 97, 116, 105, 111, 110] : List UInt8)
                                                                    · rw [if_pos c36] at H
                                                                      have c36b0 : (a0.toList == ([116, 101, 120, 116, 45, 100, 101, 99, 111, 114, 97, 116, 105, 111, 110] : List UInt8)) = true := beq_iff_eq.mpr c36
                                                                      have c36b1 : (a0.toList != ([116, 101, 120, 116, 45, 100, 101, 99, 111, 114, 97, 116, 105, 111, 110] : List UInt8)) = false := bne_eq_false_iff_eq.mpr c36
                                                                      clear c36
                                                                      have H' := Aside0.mk H
                                                                      clear H
                                                                      go_wp2
                                                                      go_meet
                                                                      case rel => exact ⟨_, H', ⟨by first | omega | exact Nat.le_refl _⟩, by repeat (first | exact Drawn0.refl _ | apply Drawn0.step)⟩
                                                                    · rw [if_neg c36] at H
                                                                      have c36b0 : (a0.toList == ([116, 101, 120, 116, 45, 100, 101, 99, 111, 114, 97, 116, 105, 111, 110] : List UInt8)) = false := beq_eq_false_iff_ne.mpr c36
                                                                      have c36b1 : (a0.toList != ([116, 101, 120, 116, 45, 100, 101, 99, 111, 114, 97, 116, 105, 111, 110] : List UInt8)) = true := bne_iff_ne.mpr c36
                                                                      by_cases c37 : a0.toList = ([116, 101, 120, 116, 45, 105, 110, 100, 101, 110, 116] : List UInt8)
                                                                      · rw [if_pos c37] at H
                                                                        have c37b0 : (a0.toList == ([116, 101, 120, 116, 45, 105, 110, 100, 101, 110, 116] : List UInt8)) = true := beq_iff_eq.mpr c37
                                                                        have c37b1 : (a0.toList != ([116, 101, 120, 116, 45, 105, 110, 100, 101, 110, 116] : List UInt8)) = false := bne_eq_false_iff_eq.mpr c37
                                                                        clear c37
                                                                        have H' := Aside0.mk H
                                                                        clear H
                                                                        go_wp2
                                                                        go_meet
                                                                        case rel => exact ⟨_, H', ⟨by first | omega | exact Nat.le_refl _⟩, by repeat (first | exact Drawn0.refl _ | apply Drawn0.step)⟩
                                                                      · rw [if_neg c37] at H
                                                                        have c37b0 : (a0.toList == ([116, 101, 120, 116, 45, 105, 110, 100, 101, 110, 116] : List UInt8)) = false := beq_eq_false_iff_ne.mpr c37
                                                                        have c37b1 : (a0.toList != ([116, 101, 120, 116, 45, 105, 110, 100, 101, 110, 116] : List UInt8)) = true := bne_iff_ne.mpr c37
                                                                        by_cases c38 : a0.toList = ([116, 101, 120, 116, 45, 116, 114, 97, 110, 115, 102, 111, 114, 109] : List UInt8)
                                                                        · rw [if_pos c38] at H
                                                                          have c38b0 : (a0.toList == ([116, 101, 120, 116, 45, 116, 114, 97, 110, 115, 102, 111, 114, 109] : List UInt8)) = true := beq_iff_eq.mpr c38
                                                                          have c38b1 : (a0.toList != ([116, 101, 120, 116, 45, 116, 114, 97, 110, 115, 102, 111, 114, 109] : List UInt8)) = false := bne_eq_false_iff_eq.mpr c38
                                                                          clear c38
                                                                          have H' := Aside0.mk H
                                                                          clear H
                                                                          go_wp2
                                                                          go_meet
                                                                          case rel => exact ⟨_, H', ⟨by first | omega | exact Nat.le_refl _⟩, by repeat (first | exact Drawn0.refl _ | apply Drawn0.step)⟩
                                                                        · rw [if_neg c38] at H
                                                                          have c38b0 : (a0.toList == ([116, 101, 120, 116, 45, 116, 114, 97, 110, 115, 102, 111, 114, 109] : List UInt8)) = false := beq_eq_false_iff_ne.mpr c38
                                                                          have c38b1 : (a0.toList != ([116, 101, 120, 116, 45, 116, 114, 97, 110, 115, 102, 111, 114, 109] : List UInt8)) = true := bne_iff_ne.mpr c38
                                                                          by_cases c39 : a0.toList = ([118, 101, 114, 116, 105, 99, 97, 108, 45, 97, 108, 105, 103, 110] : List UInt8)
                                                                          · rw [if_pos c39] at H
                                                                            have c39b0 : (a0.toList == ([118, 101, 114, 116, 105, 99, 97, 108, 45, 97, 108, 105, 103, 110] : List UInt8)) = true := beq_iff_eq.mpr c39
                                                                            have c39b1 : (a0.toList != ([118, 101, 114, 116, 105, 99, 97, 108, 45, 97, 108, 105, 103, 110] : List UInt8)) = false := bne_eq_false_iff_eq.mpr c39
                                                                            clear c39
                                                                            have H' := Aside0.mk H
                                                                            clear H
                                                                            go_wp2
                                                                            go_meet
                                                                            case rel => exact ⟨_, H', ⟨by first | omega | exact Nat.le_refl _⟩, by repeat (first | exact Drawn0.refl _ | apply Drawn0.step)⟩
                                                                          · rw [if_neg c39] at H
                                                                            have c39b0 : (a0.toList == ([118, 101, 114, 116, 105, 99, 97, 108, 45, 97, 108, 105, 103, 110] : List UInt8)) = false := beq_eq_false_iff_ne.mpr c39
                                                                            have c39b1 : (a0.toList != ([118, 101, 114, 116, 105, 99, 97, 108, 45, 97, 108, 105, 103, 110] : List UInt8)) = true := bne_iff_ne.mpr c39
                                                                            by_cases c40 : a0.toList = ([119, 104, 105, 116, 101, 45, 115, 112, 97, 99, 101] : List UInt8)
                                                                            · rw [if_pos c40] at H
                                                                              have c40b0 : (a0.toList == ([119, 104, 105, 116, 101, 45, 115, 112, 97, 99, 101] : List UInt8)) = true := beq_iff_eq.mpr c40
                                                                              have c40b1 : (a0.toList != ([119, 104, 105, 116, 101, 45, 115, 112, 97, 99, 101] : List UInt8)) = false := bne_eq_false_iff_eq.mpr c40
                                                                              clear c40
                                                                              have H' := Aside0.mk H
                                                                              clear H
                                                                              go_wp2
                                                                              go_meet
                                                                              case rel => exact ⟨_, H', ⟨by first | omega | exact Nat.le_refl _⟩, by repeat (first | exact Drawn0.refl _ | apply Drawn0.step)⟩
                                                                            · rw [if_neg c40] at H
                                                                              have c40b0 : (a0.toList == ([119, 104, 105, 116, 101, 45, 115, 112, 97, 99, 101] : List UInt8)) = false := beq_eq_false_iff_ne.mpr c40
                                                                              have c40b1 : (a0.toList != ([119, 104, 105, 116, 101, 45, 115, 112, 97, 99, 101] : List UInt8)) = true := bne_iff_ne.mpr c40
                                                                              by_cases c41 : a0.toList = ([119, 105, 100, 116, 104] : List UInt8)
                                                                              · rw [if_pos c41] at H
                                                                                have c41b0 : (a0.toList == ([119, 105, 100, 116, 104] : List UInt8)) = true := beq_iff_eq.mpr c41
                                                                                have c41b1 : (a0.toList != ([119, 105, 100, 116, 104] : List UInt8)) = false := bne_eq_false_iff_eq.mpr c41
                                                                                clear c41
                                                                                have H' := Aside0.mk H
                                                                                clear H
                                                                                go_wp2
                                                                                go_meet
                                                                                case rel => exact ⟨_, H', ⟨by first | omega | exact Nat.le_refl _⟩, by repeat (first | exact Drawn0.refl _ | apply Drawn0.step)⟩
                                                                              · rw [if_neg c41] at H
                                                                                have c41b0 : (a0.toList == ([119, 105, 100, 116, 104] : List UInt8)) = false := beq_eq_false_iff_ne.mpr c41
                                                                                have c41b1 : (a0.toList != ([119, 105, 100, 116, 104] : List UInt8)) = true := bne_iff_ne.mpr c41
                                                                                obtain rfl := Option.some.inj H
                                                                                go_wp2
                                                                                go_ret
                                                                                exact ⟨by first | rfl | (simp; done) | (simp [*]; done), by repeat (first | exact Drawn0.refl _ | apply Drawn0.step)⟩
  case rest =>
    clear HC3
    try clear c1
    try clear c2
    try clear p2
    try clear c3
    try clear c4
    try clear c4b0
    try clear c4b1
    try clear c5
    try clear c5b0
    try clear c5b1
    try clear c6
    try clear c6b0
    try clear c6b1
    try clear c7
    try clear c7b0
    try clear c7b1
    try clear c8
    try clear c8b0
    try clear c8b1
    try clear c9
    try clear c9b0
    try clear c9b1
    try clear c10
    try clear c10b0
    try clear c10b1
    try clear c11
    try clear c11b0
    try clear c11b1
    try clear c12
    try clear c12b0
    try clear c12b1
    try clear c13
    try clear c13b0
    try clear c13b1
    try clear c14
    try clear c14b0
    try clear c14b1
    try clear c15
    try clear c15b0
    try clear c15b1
    try clear c16
    try clear c16b0
    try clear c16b1
    try clear c17
    try clear c17b0
    try clear c17b1
    try clear c18
    try clear c18b0
    try clear c18b1
    try clear c19
    try clear c19b0
    try clear c19b1
    try clear c20
    try clear c20b0
    try clear c20b1
    try clear c21
    try clear c21b0
    try clear c21b1
    try clear c22
    try clear c22b0
    try clear c22b1
    try clear c23
    try clear c23b0
    try clear c23b1
    try clear c24
    try clear c24b0
    try clear c24b1
    try clear c25
    try clear c25b0
    try clear c25b1
    try clear c26
    try clear c26b0
    try clear c26b1
    try clear c27
    try clear c27b0
    try clear c27b1
    try clear c28
    try clear c28b0
    try clear c28b1
    try clear c29
    try clear c29b0
    try clear c29b1
    try clear c30
    try clear c30b0
    try clear c30b1
    try clear c31
    try clear c31b0
    try clear c31b1
    try clear c32
    try clear c32b0
    try clear c32b1
    try clear c33
    try clear c33b0
    try clear c33b1
    try clear c34
    try clear c34b0
    try clear c34b1
    try clear c35
    try clear c35b0
    try clear c35b1
    try clear c36
    try clear c36b0
    try clear c36b1
    try clear c37
    try clear c37b0
    try clear c37b1
    try clear c38
    try clear c38b0
    try clear c38b1
    try clear c39
    try clear c39b0
    try clear c39b1
    try clear c40
    try clear c40b0
    try clear c40b1
    try clear c41
    try clear c41b0
    try clear c41b1
    obtain ⟨kq, HA, HJ2, ⟨mc2, rfl⟩⟩ := hcut
    cases kq with
    | zero => exact absurd HA.out (by simp [muslinref17_Safe.j0])
    | succ kj2 =>
      have H := HA.out
      clear HA
      simp only [muslinref17_Safe.j0] at H
      have HC42 := Aside0.mk H
      clear H
      go_upto_region 41 with (fail)
      go_cut [53] (fun v53 wc => ∃ (kq : Nat) (x53_41 : Bool), v53 = .bool x53_41 ∧ Aside0 (muslinref17_Safe.j1 kq a1 x53_41 = some r) ∧ Aside0 (kq ≤ kj2) ∧ Drawn0 w wc)
      case first =>
        have H := HC42.out
        clear HC42
        by_cases c43 : (a1.size : Int) < 1
        · rw [if_pos c43] at H
          have c43b0 : decide ((a1.size : Int) < 1) = true := decide_eq_true c43
          have c43b1 : decide (a1.size < 1) = true := decide_eq_true (by omega)
          clear c43
          (first | rw [c43b0] | (simp only [i64_w, i32_w]; rw [c43b0]) | rw [c43b1] | skip)
          have H' := Aside0.mk H
          clear H
          go_wp2
          go_meet
          case rel => exact ⟨_, (true), (by first | rfl | (simp; done) | (simp [*]; done)), H', ⟨by have := HJ2.out; first | omega | exact Nat.le_refl _⟩, by repeat (first | exact Drawn0.refl _ | apply Drawn0.step)⟩
        · rw [if_neg c43] at H
          have c43b0 : decide ((a1.size : Int) < 1) = false := decide_eq_false c43
          have c43b1 : decide (a1.size < 1) = false := decide_eq_false (by omega)
          clear c43
          (first | rw [c43b0] | (simp only [i64_w, i32_w]; rw [c43b0]) | rw [c43b1] | skip)
          have H' := Aside0.mk H
          clear H
          go_wp2
          go_meet
          case rel => exact ⟨_, (decide ((a1.size : Int) > 100)), (by first | rfl | (simp; done) | (simp [*]; done)), H', ⟨by have := HJ2.out; first | omega | exact Nat.le_refl _⟩, by repeat (first | exact Drawn0.refl _ | apply Drawn0.step)⟩
      case rest =>
        clear HC42
        try clear c1
        try clear c2
        try clear p2
        try clear c3
        try clear c4
        try clear c4b0
        try clear c4b1
        try clear c5
        try clear c5b0
        try clear c5b1
        try clear c6
        try clear c6b0
        try clear c6b1
        try clear c7
        try clear c7b0
        try clear c7b1
        try clear c8
        try clear c8b0
        try clear c8b1
        try clear c9
        try clear c9b0
        try clear c9b1
        try clear c10
        try clear c10b0
        try clear c10b1
        try clear c11
        try clear c11b0
        try clear c11b1
        try clear c12
        try clear c12b0
        try clear c12b1
        try clear c13
        try clear c13b0
        try clear c13b1
        try clear c14
        try clear c14b0
        try clear c14b1
        try clear c15
        try clear c15b0
        try clear c15b1
        try clear c16
        try clear c16b0
        try clear c16b1
        try clear c17
        try clear c17b0
        try clear c17b1
        try clear c18
        try clear c18b0
        try clear c18b1
        try clear c19
        try clear c19b0
        try clear c19b1
        try clear c20
        try clear c20b0
        try clear c20b1
        try clear c21
        try clear c21b0
        try clear c21b1
        try clear c22
        try clear c22b0
        try clear c22b1
        try clear c23
        try clear c23b0
        try clear c23b1
        try clear c24
        try clear c24b0
        try clear c24b1
        try clear c25
        try clear c25b0
        try clear c25b1
        try clear c26
        try clear c26b0
        try clear c26b1
        try clear c27
        try clear c27b0
        try clear c27b1
        try clear c28
        try clear c28b0
        try clear c28b1
        try clear c29
        try clear c29b0
        try clear c29b1
        try clear c30
        try clear c30b0
        try clear c30b1
        try clear c31
        try clear c31b0
        try clear c31b1
        try clear c32
        try clear c32b0
        try clear c32b1
        try clear c33
        try clear c33b0
        try clear c33b1
        try clear c34
        try clear c34b0
        try clear c34b1
        try clear c35
        try clear c35b0
        try clear c35b1
        try clear c36
        try clear c36b0
        try clear c36b1
        try clear c37
        try clear c37b0
        try clear c37b1
        try clear c38
        try clear c38b0
        try clear c38b1
        try clear c39
        try clear c39b0
        try clear c39b1
        try clear c40
        try clear c40b0
        try clear c40b1
        try clear c41
        try clear c41b0
        try clear c41b1
        try clear c43
        try clear c43b0
        try clear c43b1
        try clear p2
        obtain ⟨kq, x53_41, rfl, HA, HJ41, ⟨mc41, rfl⟩⟩ := hcut
        cases kq with
        | zero => exact absurd HA.out (by simp [muslinref17_Safe.j1])
        | succ kj41 =>
          have H := HA.out
          clear HA
          simp only [muslinref17_Safe.j1] at H
          by_cases c44 : x53_41 = true
          · subst c44
            have H1 : (some false) = some r := by rw [if_pos rfl] at H; exact H
            clear H
            have H := H1
            clear H1
            obtain rfl := Option.some.inj H
            go_wp2
            go_ret
            exact ⟨by first | rfl | (simp; done) | (simp [*]; done), by repeat (first | exact Drawn0.refl _ | apply Drawn0.step)⟩
          · replace c44 := Bool.eq_false_iff.mpr c44
            subst c44
            have H1 : (muslinref17_Safe.l0 kj41 a1 0) = some r := by rw [if_neg (show ¬ (false = true) by decide)] at H; exact H
            clear H
            have H := H1
            clear H1
            have H' := Aside0.mk H
            clear H
            go_wp2
            go_loopg [5] kj41 (fun kq v5 w' => ∃ (x5_3 : Int), v5 = .int .i64 x5_3 ∧ Aside0 (muslinref17_Safe.l0 kq a1 x5_3 = some r) ∧ Aside0 (kq ≤ kj41) ∧ Drawn0 w w')
            case atStart => exact ⟨(0), (by first | rfl | (simp; done) | (simp [*]; done)), H', ⟨Nat.le_refl _⟩, by repeat (first | exact Drawn0.refl _ | apply Drawn0.step)⟩
            case round =>
              clear H'
              try clear c1
              try clear c2
              try clear p2
              try clear c3
              try clear c4
              try clear c4b0
              try clear c4b1
              try clear c5
              try clear c5b0
              try clear c5b1
              try clear c6
              try clear c6b0
              try clear c6b1
              try clear c7
              try clear c7b0
              try clear c7b1
              try clear c8
              try clear c8b0
              try clear c8b1
              try clear c9
              try clear c9b0
              try clear c9b1
              try clear c10
              try clear c10b0
              try clear c10b1
              try clear c11
              try clear c11b0
              try clear c11b1
              try clear c12
              try clear c12b0
              try clear c12b1
              try clear c13
              try clear c13b0
              try clear c13b1
              try clear c14
              try clear c14b0
              try clear c14b1
              try clear c15
              try clear c15b0
              try clear c15b1
              try clear c16
              try clear c16b0
              try clear c16b1
              try clear c17
              try clear c17b0
              try clear c17b1
              try clear c18
              try clear c18b0
              try clear c18b1
              try clear c19
              try clear c19b0
              try clear c19b1
              try clear c20
              try clear c20b0
              try clear c20b1
              try clear c21
              try clear c21b0
              try clear c21b1
              try clear c22
              try clear c22b0
              try clear c22b1
              try clear c23
              try clear c23b0
              try clear c23b1
              try clear c24
              try clear c24b0
              try clear c24b1
              try clear c25
              try clear c25b0
              try clear c25b1
              try clear c26
              try clear c26b0
              try clear c26b1
              try clear c27
              try clear c27b0
              try clear c27b1
              try clear c28
              try clear c28b0
              try clear c28b1
              try clear c29
              try clear c29b0
              try clear c29b1
              try clear c30
              try clear c30b0
              try clear c30b1
              try clear c31
              try clear c31b0
              try clear c31b1
              try clear c32
              try clear c32b0
              try clear c32b1
              try clear c33
              try clear c33b0
              try clear c33b1
              try clear c34
              try clear c34b0
              try clear c34b1
              try clear c35
              try clear c35b0
              try clear c35b1
              try clear c36
              try clear c36b0
              try clear c36b1
              try clear c37
              try clear c37b0
              try clear c37b1
              try clear c38
              try clear c38b0
              try clear c38b1
              try clear c39
              try clear c39b0
              try clear c39b1
              try clear c40
              try clear c40b0
              try clear c40b1
              try clear c41
              try clear c41b0
              try clear c41b1
              try clear c43
              try clear c43b0
              try clear c43b1
              try clear c44
              try clear p2
              obtain ⟨x5_3, rfl, HA, HK3, ⟨m3, rfl⟩⟩ := hrel
              cases gk with
              | zero => exact absurd HA.out (by simp [muslinref17_Safe.l0])
              | succ k3 =>
                have H := HA.out
                clear HA
                simp only [muslinref17_Safe.l0] at H
                by_cases c45 : x5_3 < (a1.size : Int)
                · rw [if_pos c45] at H
                  have c45b0 : decide (x5_3 < (a1.size : Int)) = true := decide_eq_true c45
                  clear c45
                  by_cases c46 : 0 ≤ x5_3
                  · rw [if_pos c46] at H
                    have c46b0 : decide (0 ≤ x5_3) = true := decide_eq_true c46
                    clear c46
                    by_cases c48 : (bt a1 x5_3) = 32
                    · rw [if_pos c48] at H
                      have c48b0 : ((bt a1 x5_3) == 32) = true := beq_iff_eq.mpr c48
                      have c48b1 : ((bt a1 x5_3) != 32) = false := bne_eq_false_iff_eq.mpr c48
                      clear c48
                      have H' := Aside0.mk H
                      clear H
                      have p47 : 0 ≤ (x5_3 : Int) := of_decide_eq_true (by first | (with_reducible assumption) | assumption)
                      have q47 : x5_3 < (a1.size : Int) := of_decide_eq_true (by first | (with_reducible assumption) | assumption)
                      have hx47 := bt_at a1 x5_3
                      replace p47 := eq_true p47
                      replace q47 := eq_true q47
                      go_wp2
                      go_roundg k3
                      case measure => have := HJ2.out; have := HJ41.out; have := HK3.out; omega
                      case rel => exact ⟨(wrap64 (x5_3 + 1)), (by first | rfl | (simp; done) | (simp [*]; done)), H', ⟨by have := HJ2.out; have := HJ41.out; have := HK3.out; omega⟩, by repeat (first | exact Drawn0.refl _ | apply Drawn0.step)⟩
                    · rw [if_neg c48] at H
                      have c48b0 : ((bt a1 x5_3) == 32) = false := beq_eq_false_iff_ne.mpr c48
                      have c48b1 : ((bt a1 x5_3) != 32) = true := bne_iff_ne.mpr c48
                      by_cases c49 : (bt a1 x5_3) = 35
                      · rw [if_pos c49] at H
                        have c49b0 : ((bt a1 x5_3) == 35) = true := beq_iff_eq.mpr c49
                        have c49b1 : ((bt a1 x5_3) != 35) = false := bne_eq_false_iff_eq.mpr c49
                        clear c49
                        have H' := Aside0.mk H
                        clear H
                        have p47 : 0 ≤ (x5_3 : Int) := of_decide_eq_true (by first | (with_reducible assumption) | assumption)
                        have q47 : x5_3 < (a1.size : Int) := of_decide_eq_true (by first | (with_reducible assumption) | assumption)
                        have hx47 := bt_at a1 x5_3
                        replace p47 := eq_true p47
                        replace q47 := eq_true q47
                        go_wp2
                        go_roundg k3
                        case measure => have := HJ2.out; have := HJ41.out; have := HK3.out; omega
                        case rel => exact ⟨(wrap64 (x5_3 + 1)), (by first | rfl | (simp; done) | (simp [*]; done)), H', ⟨by have := HJ2.out; have := HJ41.out; have := HK3.out; omega⟩, by repeat (first | exact Drawn0.refl _ | apply Drawn0.step)⟩
                      · rw [if_neg c49] at H
                        have c49b0 : ((bt a1 x5_3) == 35) = false := beq_eq_false_iff_ne.mpr c49
                        have c49b1 : ((bt a1 x5_3) != 35) = true := bne_iff_ne.mpr c49
                        by_cases c50 : (bt a1 x5_3) = 46
                        · rw [if_pos c50] at H
                          have c50b0 : ((bt a1 x5_3) == 46) = true := beq_iff_eq.mpr c50
                          have c50b1 : ((bt a1 x5_3) != 46) = false := bne_eq_false_iff_eq.mpr c50
                          clear c50
                          have H' := Aside0.mk H
                          clear H
                          have p47 : 0 ≤ (x5_3 : Int) := of_decide_eq_true (by first | (with_reducible assumption) | assumption)
                          have q47 : x5_3 < (a1.size : Int) := of_decide_eq_true (by first | (with_reducible assumption) | assumption)
                          have hx47 := bt_at a1 x5_3
                          replace p47 := eq_true p47
                          replace q47 := eq_true q47
                          go_wp2
                          go_roundg k3
                          case measure => have := HJ2.out; have := HJ41.out; have := HK3.out; omega
                          case rel => exact ⟨(wrap64 (x5_3 + 1)), (by first | rfl | (simp; done) | (simp [*]; done)), H', ⟨by have := HJ2.out; have := HJ41.out; have := HK3.out; omega⟩, by repeat (first | exact Drawn0.refl _ | apply Drawn0.step)⟩
                        · rw [if_neg c50] at H
                          have c50b0 : ((bt a1 x5_3) == 46) = false := beq_eq_false_iff_ne.mpr c50
                          have c50b1 : ((bt a1 x5_3) != 46) = true := bne_iff_ne.mpr c50
                          by_cases c51 : (bt a1 x5_3) = 37
                          · rw [if_pos c51] at H
                            have c51b0 : ((bt a1 x5_3) == 37) = true := beq_iff_eq.mpr c51
                            have c51b1 : ((bt a1 x5_3) != 37) = false := bne_eq_false_iff_eq.mpr c51
                            clear c51
                            have H' := Aside0.mk H
                            clear H
                            have p47 : 0 ≤ (x5_3 : Int) := of_decide_eq_true (by first | (with_reducible assumption) | assumption)
                            have q47 : x5_3 < (a1.size : Int) := of_decide_eq_true (by first | (with_reducible assumption) | assumption)
                            have hx47 := bt_at a1 x5_3
                            replace p47 := eq_true p47
                            replace q47 := eq_true q47
                            go_wp2
                            go_roundg k3
                            case measure => have := HJ2.out; have := HJ41.out; have := HK3.out; omega
                            case rel => exact ⟨(wrap64 (x5_3 + 1)), (by first | rfl | (simp; done) | (simp [*]; done)), H', ⟨by have := HJ2.out; have := HJ41.out; have := HK3.out; omega⟩, by repeat (first | exact Drawn0.refl _ | apply Drawn0.step)⟩
                          · rw [if_neg c51] at H
                            have c51b0 : ((bt a1 x5_3) == 37) = false := beq_eq_false_iff_ne.mpr c51
                            have c51b1 : ((bt a1 x5_3) != 37) = true := bne_iff_ne.mpr c51
                            by_cases c52 : (bt a1 x5_3) = 44
                            · rw [if_pos c52] at H
                              have c52b0 : ((bt a1 x5_3) == 44) = true := beq_iff_eq.mpr c52
                              have c52b1 : ((bt a1 x5_3) != 44) = false := bne_eq_false_iff_eq.mpr c52
                              clear c52
                              have H' := Aside0.mk H
                              clear H
                              have p47 : 0 ≤ (x5_3 : Int) := of_decide_eq_true (by first | (with_reducible assumption) | assumption)
                              have q47 : x5_3 < (a1.size : Int) := of_decide_eq_true (by first | (with_reducible assumption) | assumption)
                              have hx47 := bt_at a1 x5_3
                              replace p47 := eq_true p47
                              replace q47 := eq_true q47
                              go_wp2
                              go_roundg k3
                              case measure => have := HJ2.out; have := HJ41.out; have := HK3.out; omega
                              case rel => exact ⟨(wrap64 (x5_3 + 1)), (by first | rfl | (simp; done) | (simp [*]; done)), H', ⟨by have := HJ2.out; have := HJ41.out; have := HK3.out; omega⟩, by repeat (first | exact Drawn0.refl _ | apply Drawn0.step)⟩
                            · rw [if_neg c52] at H
                              have c52b0 : ((bt a1 x5_3) == 44) = false := beq_eq_false_iff_ne.mpr c52
                              have c52b1 : ((bt a1 x5_3) != 44) = true := bne_iff_ne.mpr c52
                              by_cases c53 : (bt a1 x5_3) = 45
                              · rw [if_pos c53] at H
                                have c53b0 : ((bt a1 x5_3) == 45) = true := beq_iff_eq.mpr c53
                                have c53b1 : ((bt a1 x5_3) != 45) = false := bne_eq_false_iff_eq.mpr c53
                                clear c53
                                have H' := Aside0.mk H
                                clear H
                                have p47 : 0 ≤ (x5_3 : Int) := of_decide_eq_true (by first | (with_reducible assumption) | assumption)
                                have q47 : x5_3 < (a1.size : Int) := of_decide_eq_true (by first | (with_reducible assumption) | assumption)
                                have hx47 := bt_at a1 x5_3
                                replace p47 := eq_true p47
                                replace q47 := eq_true q47
                                go_wp2
                                go_roundg k3
                                case measure => have := HJ2.out; have := HJ41.out; have := HK3.out; omega
                                case rel => exact ⟨(wrap64 (x5_3 + 1)), (by first | rfl | (simp; done) | (simp [*]; done)), H', ⟨by have := HJ2.out; have := HJ41.out; have := HK3.out; omega⟩, by repeat (first | exact Drawn0.refl _ | apply Drawn0.step)⟩
                              · rw [if_neg c53] at H
                                have c53b0 : ((bt a1 x5_3) == 45) = false := beq_eq_false_iff_ne.mpr c53
                                have c53b1 : ((bt a1 x5_3) != 45) = true := bne_iff_ne.mpr c53
                                by_cases c54 : (bt a1 x5_3) = 43
                                · rw [if_pos c54] at H
                                  have c54b0 : ((bt a1 x5_3) == 43) = true := beq_iff_eq.mpr c54
                                  have c54b1 : ((bt a1 x5_3) != 43) = false := bne_eq_false_iff_eq.mpr c54
                                  clear c54
                                  have H' := Aside0.mk H
                                  clear H
                                  have p47 : 0 ≤ (x5_3 : Int) := of_decide_eq_true (by first | (with_reducible assumption) | assumption)
                                  have q47 : x5_3 < (a1.size : Int) := of_decide_eq_true (by first | (with_reducible assumption) | assumption)
                                  have hx47 := bt_at a1 x5_3
                                  replace p47 := eq_true p47
                                  replace q47 := eq_true q47
                                  go_wp2
                                  go_roundg k3
                                  case measure => have := HJ2.out; have := HJ41.out; have := HK3.out; omega
                                  case rel => exact ⟨(wrap64 (x5_3 + 1)), (by first | rfl | (simp; done) | (simp [*]; done)), H', ⟨by have := HJ2.out; have := HJ41.out; have := HK3.out; omega⟩, by repeat (first | exact Drawn0.refl _ | apply Drawn0.step)⟩
                                · rw [if_neg c54] at H
                                  have c54b0 : ((bt a1 x5_3) == 43) = false := beq_eq_false_iff_ne.mpr c54
                                  have c54b1 : ((bt a1 x5_3) != 43) = true := bne_iff_ne.mpr c54
                                  by_cases c55 : (bt a1 x5_3) = 33
                                  · rw [if_pos c55] at H
                                    have c55b0 : ((bt a1 x5_3) == 33) = true := beq_iff_eq.mpr c55
                                    have c55b1 : ((bt a1 x5_3) != 33) = false := bne_eq_false_iff_eq.mpr c55
                                    clear c55
                                    have H' := Aside0.mk H
                                    clear H
                                    have p47 : 0 ≤ (x5_3 : Int) := of_decide_eq_true (by first | (with_reducible assumption) | assumption)
                                    have q47 : x5_3 < (a1.size : Int) := of_decide_eq_true (by first | (with_reducible assumption) | assumption)
                                    have hx47 := bt_at a1 x5_3
                                    replace p47 := eq_true p47
                                    replace q47 := eq_true q47
                                    go_wp2
                                    go_roundg k3
                                    case measure => have := HJ2.out; have := HJ41.out; have := HK3.out; omega
                                    case rel => exact ⟨(wrap64 (x5_3 + 1)), (by first | rfl | (simp; done) | (simp [*]; done)), H', ⟨by have := HJ2.out; have := HJ41.out; have := HK3.out; omega⟩, by repeat (first | exact Drawn0.refl _ | apply Drawn0.step)⟩
                                  · rw [if_neg c55] at H
                                    have c55b0 : ((bt a1 x5_3) == 33) = false := beq_eq_false_iff_ne.mpr c55
                                    have c55b1 : ((bt a1 x5_3) != 33) = true := bne_iff_ne.mpr c55
                                    replace H := Option.bind_eq_some_iff.mp H
                                    obtain ⟨t155, A570, H⟩ := H
                                    replace H : (if t155 = true then (muslinref17_Safe.l0 k3 a1 (wrap64 (x5_3 + 1))) else ((muslinref03_Digit.f (bt a1 x5_3)).bind fun t156 => (if t156 = true then (muslinref17_Safe.l0 k3 a1 (wrap64 (x5_3 + 1))) else (some false)))) = some r := H
                                    have A57 := Aside0.mk A570
                                    clear A570
                                    by_cases c58 : t155 = true
                                    · subst c58
                                      have H1 : (muslinref17_Safe.l0 k3 a1 (wrap64 (x5_3 + 1))) = some r := by rw [if_pos rfl] at H; exact H
                                      clear H
                                      have H := H1
                                      clear H1
                                      have H' := Aside0.mk H
                                      clear H
                                      have p47 : 0 ≤ (x5_3 : Int) := of_decide_eq_true (by first | (with_reducible assumption) | assumption)
                                      have q47 : x5_3 < (a1.size : Int) := of_decide_eq_true (by first | (with_reducible assumption) | assumption)
                                      have hx47 := bt_at a1 x5_3
                                      replace p47 := eq_true p47
                                      replace q47 := eq_true q47
                                      have p56 : 0 ≤ (x5_3 : Int) := of_decide_eq_true (by first | (with_reducible assumption) | assumption)
                                      have q56 : x5_3 < (a1.size : Int) := of_decide_eq_true (by first | (with_reducible assumption) | assumption)
                                      have hx56 := bt_at a1 x5_3
                                      replace p56 := eq_true p56
                                      replace q56 := eq_true q56
                                      go_wp2_with (first | ((with_reducible refine gate_callee (f := 31) rfl ?_); refine goesL_ (some 75) rfl rfl Tryd.func31 (by kernel_rfl) rfl #[.int .u8 (bt a1 x5_3)] rfl (by (try simp only [List.map_toArray, List.map_cons, List.map_nil]); first | done | rfl | (simp only [List.length_drop, List.length_take]; rfl)) ?_; (with_reducible refine (muslinref03_Letter.calls (bt a1 x5_3) true _ A57.out).mono ?_); rintro e w' ⟨rfl, ⟨nd, rfl⟩⟩; refine ⟨_, rfl, ?_⟩))
                                      go_roundg k3
                                      case measure => have := HJ2.out; have := HJ41.out; have := HK3.out; omega
                                      case rel => exact ⟨(wrap64 (x5_3 + 1)), (by first | rfl | (simp; done) | (simp [*]; done)), H', ⟨by have := HJ2.out; have := HJ41.out; have := HK3.out; omega⟩, by repeat (first | exact Drawn0.refl _ | apply Drawn0.step)⟩
                                    · replace c58 := Bool.eq_false_iff.mpr c58
                                      subst c58
                                      have H1 : ((muslinref03_Digit.f (bt a1 x5_3)).bind fun t156 => (if t156 = true then (muslinref17_Safe.l0 k3 a1 (wrap64 (x5_3 + 1))) else (some false))) = some r := by rw [if_neg (show ¬ (false = true) by decide)] at H; exact H
                                      clear H
                                      have H := H1
                                      clear H1
                                      replace H := Option.bind_eq_some_iff.mp H
                                      obtain ⟨t156, A600, H⟩ := H
                                      replace H : (if t156 = true then (muslinref17_Safe.l0 k3 a1 (wrap64 (x5_3 + 1))) else (some false)) = some r := H
                                      have A60 := Aside0.mk A600
                                      clear A600
                                      by_cases c61 : t156 = true
                                      · subst c61
                                        have H1 : (muslinref17_Safe.l0 k3 a1 (wrap64 (x5_3 + 1))) = some r := by rw [if_pos rfl] at H; exact H
                                        clear H
                                        have H := H1
                                        clear H1
                                        have H' := Aside0.mk H
                                        clear H
                                        have p47 : 0 ≤ (x5_3 : Int) := of_decide_eq_true (by first | (with_reducible assumption) | assumption)
                                        have q47 : x5_3 < (a1.size : Int) := of_decide_eq_true (by first | (with_reducible assumption) | assumption)
                                        have hx47 := bt_at a1 x5_3
                                        replace p47 := eq_true p47
                                        replace q47 := eq_true q47
                                        have p56 : 0 ≤ (x5_3 : Int) := of_decide_eq_true (by first | (with_reducible assumption) | assumption)
                                        have q56 : x5_3 < (a1.size : Int) := of_decide_eq_true (by first | (with_reducible assumption) | assumption)
                                        have hx56 := bt_at a1 x5_3
                                        replace p56 := eq_true p56
                                        replace q56 := eq_true q56
                                        go_wp2_with (first | ((with_reducible refine gate_callee (f := 31) rfl ?_); refine goesL_ (some 75) rfl rfl Tryd.func31 (by kernel_rfl) rfl #[.int .u8 (bt a1 x5_3)] rfl (by (try simp only [List.map_toArray, List.map_cons, List.map_nil]); first | done | rfl | (simp only [List.length_drop, List.length_take]; rfl)) ?_; (with_reducible refine (muslinref03_Letter.calls (bt a1 x5_3) false _ A57.out).mono ?_); rintro e w' ⟨rfl, ⟨nd, rfl⟩⟩; refine ⟨_, rfl, ?_⟩; have p59 : 0 ≤ (x5_3 : Int) := of_decide_eq_true (by first | (with_reducible assumption) | assumption); have q59 : x5_3 < (a1.size : Int) := of_decide_eq_true (by first | (with_reducible assumption) | assumption); have hx59 := bt_at a1 x5_3; replace p59 := eq_true p59; replace q59 := eq_true q59) | (go_at_call 32; (with_reducible refine (muslinref03_Digit.calls (bt a1 x5_3) true _ A60.out).mono ?_); rintro e w' ⟨rfl, ⟨nd, rfl⟩⟩))
                                        go_roundg k3
                                        case measure => have := HJ2.out; have := HJ41.out; have := HK3.out; omega
                                        case rel => exact ⟨(wrap64 (x5_3 + 1)), (by first | rfl | (simp; done) | (simp [*]; done)), H', ⟨by have := HJ2.out; have := HJ41.out; have := HK3.out; omega⟩, by repeat (first | exact Drawn0.refl _ | apply Drawn0.step)⟩
                                      · replace c61 := Bool.eq_false_iff.mpr c61
                                        subst c61
                                        have H1 : (some false) = some r := by rw [if_neg (show ¬ (false = true) by decide)] at H; exact H
                                        clear H
                                        have H := H1
                                        clear H1
                                        obtain rfl := Option.some.inj H
                                        have p47 : 0 ≤ (x5_3 : Int) := of_decide_eq_true (by first | (with_reducible assumption) | assumption)
                                        have q47 : x5_3 < (a1.size : Int) := of_decide_eq_true (by first | (with_reducible assumption) | assumption)
                                        have hx47 := bt_at a1 x5_3
                                        replace p47 := eq_true p47
                                        replace q47 := eq_true q47
                                        have p56 : 0 ≤ (x5_3 : Int) := of_decide_eq_true (by first | (with_reducible assumption) | assumption)
                                        have q56 : x5_3 < (a1.size : Int) := of_decide_eq_true (by first | (with_reducible assumption) | assumption)
                                        have hx56 := bt_at a1 x5_3
                                        replace p56 := eq_true p56
                                        replace q56 := eq_true q56
                                        go_wp2_with (first | ((with_reducible refine gate_callee (f := 31) rfl ?_); refine goesL_ (some 75) rfl rfl Tryd.func31 (by kernel_rfl) rfl #[.int .u8 (bt a1 x5_3)] rfl (by (try simp only [List.map_toArray, List.map_cons, List.map_nil]); first | done | rfl | (simp only [List.length_drop, List.length_take]; rfl)) ?_; (with_reducible refine (muslinref03_Letter.calls (bt a1 x5_3) false _ A57.out).mono ?_); rintro e w' ⟨rfl, ⟨nd, rfl⟩⟩; refine ⟨_, rfl, ?_⟩; have p59 : 0 ≤ (x5_3 : Int) := of_decide_eq_true (by first | (with_reducible assumption) | assumption); have q59 : x5_3 < (a1.size : Int) := of_decide_eq_true (by first | (with_reducible assumption) | assumption); have hx59 := bt_at a1 x5_3; replace p59 := eq_true p59; replace q59 := eq_true q59) | (go_at_call 32; (with_reducible refine (muslinref03_Digit.calls (bt a1 x5_3) false _ A60.out).mono ?_); rintro e w' ⟨rfl, ⟨nd, rfl⟩⟩))
                                        go_ret
                                        exact ⟨by first | rfl | (simp; done) | (simp [*]; done), by repeat (first | exact Drawn0.refl _ | apply Drawn0.step)⟩
                  · rw [if_neg c46] at H
                    exact absurd H (by simp)
                · rw [if_neg c45] at H
                  have c45b0 : decide (x5_3 < (a1.size : Int)) = false := decide_eq_false c45
                  clear c45
                  obtain rfl := Option.some.inj H
                  go_wp2
                  go_ret
                  exact ⟨by first | rfl | (simp; done) | (simp [*]; done), by repeat (first | exact Drawn0.refl _ | apply Drawn0.step)⟩

end Go.Proofs.YtollfaphadcnnaaDoor.Pr
