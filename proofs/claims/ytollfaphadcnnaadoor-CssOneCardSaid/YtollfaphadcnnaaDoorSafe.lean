/- css.Safe: whether a declaration is let through; the names lie in a variable of the package. -/
import Derived.Test.YtollfaphadcnnaaDoorTx
import Derived.Test.YtollfaphadcnnaaDoorPrx0
set_option linter.unusedVariables false
set_option linter.unusedSimpArgs false
namespace Go.Proofs.YtollfaphadcnnaaDoor
open Go.RowKit Go.Shelf Plain Go.Proofs.YtollfaphadcnnaaDoorW.PrintWords
def nmL : List ByteArray := [⟨#[98, 97, 99, 107, 103, 114, 111, 117, 110, 100, 45, 99, 111, 108, 111, 114]⟩, ⟨#[98, 111, 114, 100, 101, 114]⟩, ⟨#[98, 111, 114, 100, 101, 114, 45, 98, 111, 116, 116, 111, 109]⟩, ⟨#[98, 111, 114, 100, 101, 114, 45, 99, 111, 108, 108, 97, 112, 115, 101]⟩, ⟨#[98, 111, 114, 100, 101, 114, 45, 99, 111, 108, 111, 114]⟩, ⟨#[98, 111, 114, 100, 101, 114, 45, 108, 101, 102, 116]⟩, ⟨#[98, 111, 114, 100, 101, 114, 45, 114, 105, 103, 104, 116]⟩, ⟨#[98, 111, 114, 100, 101, 114, 45, 115, 112, 97, 99, 105, 110, 103]⟩, ⟨#[98, 111, 114, 100, 101, 114, 45, 115, 116, 121, 108, 101]⟩, ⟨#[98, 111, 114, 100, 101, 114, 45, 116, 111, 112]⟩, ⟨#[98, 111, 114, 100, 101, 114, 45, 119, 105, 100, 116, 104]⟩, ⟨#[99, 111, 108, 111, 114]⟩, ⟨#[100, 105, 114, 101, 99, 116, 105, 111, 110]⟩, ⟨#[102, 111, 110, 116, 45, 115, 105, 122, 101]⟩, ⟨#[102, 111, 110, 116, 45, 115, 116, 121, 108, 101]⟩, ⟨#[102, 111, 110, 116, 45, 119, 101, 105, 103, 104, 116]⟩, ⟨#[104, 101, 105, 103, 104, 116]⟩, ⟨#[108, 101, 116, 116, 101, 114, 45, 115, 112, 97, 99, 105, 110, 103]⟩, ⟨#[108, 105, 110, 101, 45, 104, 101, 105, 103, 104, 116]⟩, ⟨#[108, 105, 115, 116, 45, 115, 116, 121, 108, 101, 45, 116, 121, 112, 101]⟩, ⟨#[109, 97, 114, 103, 105, 110]⟩, ⟨#[109, 97, 114, 103, 105, 110, 45, 98, 111, 116, 116, 111, 109]⟩, ⟨#[109, 97, 114, 103, 105, 110, 45, 108, 101, 102, 116]⟩, ⟨#[109, 97, 114, 103, 105, 110, 45, 114, 105, 103, 104, 116]⟩, ⟨#[109, 97, 114, 103, 105, 110, 45, 116, 111, 112]⟩, ⟨#[109, 97, 120, 45, 119, 105, 100, 116, 104]⟩, ⟨#[112, 97, 100, 100, 105, 110, 103]⟩, ⟨#[112, 97, 100, 100, 105, 110, 103, 45, 98, 111, 116, 116, 111, 109]⟩, ⟨#[112, 97, 100, 100, 105, 110, 103, 45, 108, 101, 102, 116]⟩, ⟨#[112, 97, 100, 100, 105, 110, 103, 45, 114, 105, 103, 104, 116]⟩, ⟨#[112, 97, 100, 100, 105, 110, 103, 45, 116, 111, 112]⟩, ⟨#[116, 101, 120, 116, 45, 97, 108, 105, 103, 110]⟩, ⟨#[116, 101, 120, 116, 45, 100, 101, 99, 111, 114, 97, 116, 105, 111, 110]⟩, ⟨#[116, 101, 120, 116, 45, 105, 110, 100, 101, 110, 116]⟩, ⟨#[116, 101, 120, 116, 45, 116, 114, 97, 110, 115, 102, 111, 114, 109]⟩, ⟨#[118, 101, 114, 116, 105, 99, 97, 108, 45, 97, 108, 105, 103, 110]⟩, ⟨#[119, 104, 105, 116, 101, 45, 115, 112, 97, 99, 101]⟩, ⟨#[119, 105, 100, 116, 104]⟩]
def nmAt (j : Nat) : ByteArray := nmL.getD j ⟨#[]⟩
/-- The variable of the names reads as the program lays it. -/
def NmAt (w : World) : Prop := ∃ b o c, w.cell? ⟨0, 0, none⟩ = some (.slice (some ⟨b, o, none⟩) 38 c) ∧ (∀ j, j < 38 → w.cell? ⟨b, o + j, none⟩ = some (.string (nmAt j))) ∧ b < w.heap.size ∧ 0 < w.heap.size
theorem NmAt.below {w W : World} (h : NmAt w) (hb : Below w.heap.size w W) : NmAt W := by
  obtain ⟨b, o, c, h1, h2, h3, h4⟩ := h
  have hs := hb.size
  exact ⟨b, o, c, (hb.cell (p := ⟨0, 0, none⟩) h4).trans h1, fun j hj => (hb.cell (p := ⟨b, o + j, none⟩) h3).trans (h2 j hj), by omega, by omega⟩
def bsI (n : ByteArray) : Nat := Lib.bsGo (fun t => Op.bytesLess (nmAt t).toList n.toList) 38 0 38
def isNm (n : ByteArray) : Bool := decide (bsI n < 38 ∧ nmAt (bsI n) = n)
theorem bs_any (b o c : Nat) (n : ByteArray) (w : World) (hc : ∀ j, j < 38 → w.cell? ⟨b, o + j, none⟩ = some (.string (nmAt j))) :
    Calls Tryd.prog 30 #[.slice (some ⟨b, o, none⟩) 38 c, .string n] w fun e w' => e = .returned (.tuple #[.int .i64 (bsI n : Nat), .bool (isNm n)]) ∧ ∃ q, w' = w.drewN q :=
  Tryd.slices_BinarySearch b o 38 c nmAt n w (by decide) hc
def safeB (n v : ByteArray) : Bool := isNm n && (!v.toList.isEmpty && (decide (v.size ≤ 100) && (Lib.trimS v.data.toList letB).isEmpty))
def letS : ByteArray := ⟨#[97, 98, 99, 100, 101, 102, 103, 104, 105, 106, 107, 108, 109, 110, 111, 112, 113, 114, 115, 116, 117, 118, 119, 120, 121, 122, 65, 66, 67, 68, 69, 70, 71, 72, 73, 74, 75, 76, 77, 78, 79, 80, 81, 82, 83, 84, 85, 86, 87, 88, 89, 90, 48, 49, 50, 51, 52, 53, 54, 55, 56, 57, 32, 35, 46, 37, 44, 45, 43, 33]⟩
theorem letS_data : letS.data.toList = letB := rfl
theorem toList_mk (l : List UInt8) : (⟨l.toArray⟩ : ByteArray).toList = l := by rw [Lib.toList_data]
set_option maxHeartbeats 1000000 in
theorem safe_any (n v : ByteArray) (w : World) (hN : NmAt w) :
    Calls Tryd.prog 16 #[.string n, .string v] w fun e w' => e = .returned (.bool (safeB n v)) ∧ Below w.heap.size w w' := by
  obtain ⟨b, o, c, h1, h2, h3, h4⟩ := hN
  have HC := Lib.hid h2
  clear h2
  obtain ⟨q, hq⟩ : ∃ q, isNm n = q := ⟨_, rfl⟩
  obtain ⟨i, hi⟩ : ∃ i, bsI n = i := ⟨_, rfl⟩
  have hbs := bs_any b o c n w HC.out
  rw [hq, hi] at hbs
  cases q with
  | false =>
    have HS : Hid (safeB n v = false) := Lib.hid (by unfold safeB; rw [hq]; rfl)
    clear hq hi
    go_enter Tryd.func16, Tryd.ntmps16
    go_wp2_with (first | (go_at_call 30; refine hbs.mono ?_; rintro e w' ⟨rfl, m, rfl⟩))
    go_ret
    exact ⟨by rw [HS.out]; rfl, pw_below_drewN (Below.refl _ _) _⟩
  | true =>
    by_cases hv0 : v.toList = []
    · have HS : Hid (safeB n v = false) := Lib.hid (by unfold safeB; rw [hq, hv0]; rfl)
      have e1 : (!v.toList.isEmpty) = false := by rw [hv0]; rfl
      clear hq hi
      go_enter Tryd.func16, Tryd.ntmps16
      go_wp2_with (first | (go_at_call 30; refine hbs.mono ?_; rintro e w' ⟨rfl, m, rfl⟩))
      go_ret
      exact ⟨by rw [HS.out]; rfl, pw_below_drewN (Below.refl _ _) _⟩
    · have e1 : (!v.toList.isEmpty) = true := by
        rw [Bool.not_eq_true', List.isEmpty_eq_false_iff]; exact hv0
      by_cases h100 : v.size ≤ 100
      · have HS : Hid (safeB n v = (Lib.trimS v.data.toList letB).isEmpty) := Lib.hid (by unfold safeB; rw [hq, e1, decide_eq_true h100]; rfl)
        have d1 : decide ((v.size : Int) ≤ 100) = true := decide_eq_true (by omega)
        have htr : ∀ W, Calls Tryd.prog 21 #[.string v, .string letS] W fun e w' => e = .returned (.string ⟨(Lib.trimS v.data.toList letB).toArray⟩) ∧ Below W.heap.size W w' := fun W => trim_set v letS W (by omega) (by decide) (by decide) (by decide)
        have HT := Lib.hid htr
        clear hq hi htr
        go_enter Tryd.func16, Tryd.ntmps16
        go_wp2_with (first | (go_at_call 30; refine hbs.mono ?_; rintro e w' ⟨rfl, m, rfl⟩) | (go_at_call 21; refine (HT.out _).mono ?_; rintro e w' ⟨rfl, hb⟩))
        go_ret
        refine ⟨?_, ?_⟩
        · rw [HS.out]
          rfl
        · exact (pw_below_drewN (Below.refl _ _) _).trans hb
      · have HS : Hid (safeB n v = false) := Lib.hid (by unfold safeB; rw [decide_eq_false h100]; simp)
        have d1 : decide ((v.size : Int) ≤ 100) = false := decide_eq_false (by omega)
        clear hq hi
        go_enter Tryd.func16, Tryd.ntmps16
        go_wp2_with (first | (go_at_call 30; refine hbs.mono ?_; rintro e w' ⟨rfl, m, rfl⟩))
        go_ret
        exact ⟨by rw [HS.out]; rfl, pw_below_drewN (Below.refl _ _) _⟩
end Go.Proofs.YtollfaphadcnnaaDoor
