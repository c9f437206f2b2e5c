/- Letters made small. -/
import Derived.Test.YtollfaphadcnnaaDoorProg
import Derived.Test.YtollfaphadcnnaaDoorLow
import Derived.Deep.RegionWith
import Derived.Deep.QuietTactic
import Derived.BigQuiet
import Derived.StillTailTactics
import Derived.Lib.Hide
import Derived.Laws.RangeAny
import Derived.Laws.Runes
import Derived.Lib.CutLaws
import Derived.Lib.IndexBytes
import Derived.Lib.ConvBytes
import Derived.Deep.DeepCutAuto
set_option linter.unusedVariables false
set_option linter.unusedSimpArgs false
namespace Go.Proofs.YtollfaphadcnnaaDoor
open Go.RowKit Plain
theorem u8_all {P : UInt8 → Prop} (h : ∀ n : Fin 256, P (UInt8.ofNat n.val)) (c : UInt8) : P c := by
  have := h ⟨c.toNat, c.toNat_lt⟩
  simpa using this
theorem low_up : ∀ c : UInt8, 65 ≤ (c.toNat : Int) → (c.toNat : Int) ≤ 90 → ((low c).toNat : Int) = c.toNat + 32 := u8_all (by decide +kernel)
theorem low_up' : ∀ c : UInt8, 65 ≤ (c.toNat : Int) → (c.toNat : Int) ≤ 90 → ((low c).toNat : Int) = (c.toNat : Int) - 65 + 97 := u8_all (by decide +kernel)
theorem low_no : ∀ c : UInt8, ¬ (65 ≤ (c.toNat : Int) ∧ (c.toNat : Int) ≤ 90) → low c = c := u8_all (by decide +kernel)

set_option maxHeartbeats 2000000 in
theorem refSmall_any (s : ByteArray) (w : World) (hs : s.size ≤ 140737488351232) :
    Calls Tryd.prog 23 #[.string s] w fun e w' => e = .returned (.string ⟨(small s.data.toList).toArray⟩) ∧ Below w.heap.size w w' := by
  have hcv := Lib.run_convert_string_bytes (P := Tryd.prog) w 9 44 5 s Tryd.underlying9 Tryd.underlying44 Tryd.underlying5
  have hst := LowRow.start w 5 s
  have hbw := below_bytes w 5 s
  generalize Lib.bytesWorld w 5 s = w1 at *
  generalize grownCap w s.size 0 5 = cap at *
  have HST := Lib.hid hst
  have HBW := Lib.hid hbw
  clear hst hbw
  go_enter Tryd.func23, Tryd.ntmps23
  go_wp2
  clear hcv
  go_loopw [4] (fun i wr => ∃ k : Nat, k ≤ s.size ∧ i = .int .i64 k ∧ Hid (LowRow w.heap.size s k wr) ∧ Hid (Below w.heap.size w wr)) (fun i _ => s.size - (intOf i).toNat)
  case atStart => exact ⟨0, Nat.zero_le _, rfl, HST, HBW⟩
  case round =>
    obtain ⟨k, hk, rfl, HL, Hb⟩ := hrel
    by_cases hlt : k < s.size
    · have hc := (HL.out.cell hlt).1
      have hf := (HL.out.cell hlt).2
      have hc256 := s[k].toNat_lt
      by_cases hu : 65 ≤ (s[k].toNat : Int) ∧ (s[k].toNat : Int) ≤ 90
      · obtain ⟨h1, h2⟩ := hu
        have hlow := Lib.hid (low_up s[k] h1 h2)
        go_wp2
        go_roundw
        case rel => exact ⟨k + 1, by omega, by go_num, Lib.hid (by have := HL.out.put hlt; rw [hlow.out] at this; exact this), Lib.hid (Hb.out.setCell (p := ⟨w.heap.size, k, none⟩) (Nat.le_refl _) _)⟩
        case measure => simp [intOf]; omega
      · have hlow := Lib.hid (low_no s[k] hu)
        by_cases h1 : 65 ≤ (s[k].toNat : Int)
        all_goals
          first | (have h2 : ¬ (s[k].toNat : Int) ≤ 90 := fun h => hu ⟨h1, h⟩) | skip
          clear hu
          go_wp2
          go_roundw
          case rel => exact ⟨k + 1, by omega, by go_num, Lib.hid (HL.out.keep hlt hlow.out), Hb⟩
          case measure => simp [intOf]; omega
    · obtain rfl : k = s.size := by omega
      have hcv := HL.out.string 44 9 5 cap Tryd.underlying44 Tryd.underlying5 Tryd.underlying9
      go_wp2
      go_ret
      exact ⟨rfl, Hb.out⟩
set_option maxHeartbeats 2000000 in
theorem small_any (s : ByteArray) (w : World) (hs : s.size ≤ 140737488351232) :
    Calls Tryd.prog 20 #[.string s] w fun e w' => e = .returned (.string ⟨(small s.data.toList).toArray⟩) ∧ Below w.heap.size w w' := by
  have hcv := Lib.run_convert_string_bytes (P := Tryd.prog) w 9 44 5 s Tryd.underlying9 Tryd.underlying44 Tryd.underlying5
  have hst := LowRow.start w 5 s
  have hbw := below_bytes w 5 s
  generalize Lib.bytesWorld w 5 s = w1 at *
  generalize grownCap w s.size 0 5 = cap at *
  have HST := Lib.hid hst
  have HBW := Lib.hid hbw
  clear hst hbw
  go_enter Tryd.func20, Tryd.ntmps20
  go_wp2
  clear hcv
  go_loopw [10] (fun i wr => ∃ k : Nat, k ≤ s.size ∧ i = .int .i64 k ∧ Hid (LowRow w.heap.size s k wr) ∧ Hid (Below w.heap.size w wr)) (fun i _ => s.size - (intOf i).toNat)
  case atStart => exact ⟨0, Nat.zero_le _, rfl, HST, HBW⟩
  case round =>
    obtain ⟨k, hk, rfl, HL, Hb⟩ := hrel
    by_cases hlt : k < s.size
    · have hc := (HL.out.cell hlt).1
      have hf := (HL.out.cell hlt).2
      have hc256 := s[k].toNat_lt
      by_cases hu : 65 ≤ (s[k].toNat : Int) ∧ (s[k].toNat : Int) ≤ 90
      · obtain ⟨h1, h2⟩ := hu
        have hlow := Lib.hid (low_up' s[k] h1 h2)
        go_wp2
        go_roundw
        case rel => exact ⟨k + 1, by omega, by go_num, Lib.hid (by have := HL.out.put hlt; rw [hlow.out] at this; exact this), Lib.hid (Hb.out.setCell (p := ⟨w.heap.size, k, none⟩) (Nat.le_refl _) _)⟩
        case measure => simp [intOf]; omega
      · have hlow := Lib.hid (low_no s[k] hu)
        by_cases h1 : 65 ≤ (s[k].toNat : Int)
        all_goals
          first | (have h2 : ¬ (s[k].toNat : Int) ≤ 90 := fun h => hu ⟨h1, h⟩) | skip
          clear hu
          go_wp2
          go_roundw
          case rel => exact ⟨k + 1, by omega, by go_num, Lib.hid (HL.out.keep hlt hlow.out), Hb⟩
          case measure => simp [intOf]; omega
    · obtain rfl : k = s.size := by omega
      have hcv := HL.out.string 44 9 5 cap Tryd.underlying44 Tryd.underlying5 Tryd.underlying9
      go_wp2
      go_ret
      exact ⟨rfl, Hb.out⟩

end Go.Proofs.YtollfaphadcnnaaDoor
