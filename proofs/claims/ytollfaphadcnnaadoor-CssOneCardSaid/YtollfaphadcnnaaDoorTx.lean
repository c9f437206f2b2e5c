/- strings.Cut at a separator of one byte; strings.Trim at the two sets of signs that css uses. -/
import Derived.Test.YtollfaphadcnnaaDoorShelf
import Derived.Test.YtollfaphadcnnaaDoorSml
import Derived.Shelf.Strings.SlTrimAscii
import Derived.WalkSpells
import Derived.WalkKit
import Derived.Lib.Hide
import Derived.Lib.CutLaws
import Derived.Deep.QuietTactic
import Derived.BigQuiet
set_option linter.unusedVariables false
set_option linter.unusedSimpArgs false
namespace Go.Proofs.YtollfaphadcnnaaDoor
open Go.RowKit Go.Shelf Plain
set_option maxHeartbeats 2000000 in
theorem liteCut_one (s : ByteArray) (c : UInt8) (w : World) (hs : s.size ≤ 140737488351232) :
    Calls Tryd.prog 33 #[.string s, .string ⟨#[c]⟩] w fun e w' => e = .returned (.tuple #[.string ⟨(Lib.cut s.data.toList [c]).1.toArray⟩, .string ⟨(Lib.cut s.data.toList [c]).2.1.toArray⟩, .bool (Lib.cut s.data.toList [c]).2.2]) ∧ ∃ n, w' = w.drewN n := by
  have hidx : Lib.indexByte s.data.toList c = Lib.indexB s ⟨#[c]⟩ := (Lib.index_one s.data.toList c).symm
  rcases Lib.indexB_cases s ⟨#[c]⟩ with hix | ⟨i, hix, hroom⟩
  · obtain ⟨e1, e2, e3⟩ := Lib.cutB_miss s ⟨#[c]⟩ hix
    simp only at e1 e2 e3
    rw [e1, e2, e3]
    have hI := Lib.hid (hidx.trans hix)
    clear e1 e2 e3 hidx hix
    go_enter Tryd.func33, Tryd.ntmps33
    go_wp2_with fail
    refine (Tryd.stringslite_Index_one _ _ _).mono ?_
    rintro e w' ⟨rfl, rfl⟩
    rw [hI.out]
    go_wp2
    go_ret3
    exact ⟨rfl, 0, rfl⟩
  · obtain ⟨e1, e2, e3⟩ := Lib.cutB_hit s ⟨#[c]⟩ i hix
    simp only at e1 e2 e3
    rw [e1, e2, e3]
    have hI := Lib.hid (hidx.trans hix)
    have hroom' : i + 1 ≤ s.size := hroom
    have c1 : (0 : Int) ≤ ↑i := by omega
    have c2 : (↑i : Int) ≤ ↑s.size := by omega
    have c3 : (0 : Int) ≤ ↑i + 1 := by omega
    have c4 : (↑i + 1 : Int) ≤ ↑s.size := by omega
    clear e1 e2 e3 hidx hix
    go_enter Tryd.func33, Tryd.ntmps33
    go_wp2_with fail
    refine (Tryd.stringslite_Index_one _ _ _).mono ?_
    rintro e w' ⟨rfl, rfl⟩
    rw [hI.out]
    go_wp2_with fail
    go_quiet (fail)
    go_wp2
    go_ret3
    exact ⟨rfl, _, rfl⟩

set_option maxHeartbeats 1000000 in
theorem cut_one (s : ByteArray) (c : UInt8) (w : World) (hs : s.size ≤ 140737488351232) :
    Calls Tryd.prog 19 #[.string s, .string ⟨#[c]⟩] w fun e w' => e = .returned (.tuple #[.string ⟨(Lib.cut s.data.toList [c]).1.toArray⟩, .string ⟨(Lib.cut s.data.toList [c]).2.1.toArray⟩, .bool (Lib.cut s.data.toList [c]).2.2]) ∧ ∃ n, w' = w.drewN n := by
  go_enter Tryd.func19, Tryd.ntmps19
  go_wp2_with fail
  refine (liteCut_one s c w hs).mono ?_
  rintro e w' ⟨rfl, n, rfl⟩
  go_wp2
  go_ret3
  exact ⟨rfl, n, rfl⟩


def wh : List UInt8 := [32, 9, 10, 12, 13]
def letB : List UInt8 := [97, 98, 99, 100, 101, 102, 103, 104, 105, 106, 107, 108, 109, 110, 111, 112, 113, 114, 115, 116, 117, 118, 119, 120, 121, 122, 65, 66, 67, 68, 69, 70, 71, 72, 73, 74, 75, 76, 77, 78, 79, 80, 81, 82, 83, 84, 85, 86, 87, 88, 89, 90, 48, 49, 50, 51, 52, 53, 54, 55, 56, 57, 32, 35, 46, 37, 44, 45, 43, 33]
theorem trim_set (s t : ByteArray) (w : World) (hs : s.size ≤ 9223372036854775807) (h1 : t.size ≤ 1000) (h2 : t.data.toList.all (fun c => decide (c.toNat < 128)) = true) (h3 : 2 ≤ t.size) :
    Calls Tryd.prog 21 #[.string s, .string t] w fun e w' => e = .returned (.string ⟨(Lib.trimS s.data.toList t.data.toList).toArray⟩) ∧ Below w.heap.size w w' :=
  Any.strings_Trim_laid Tryd.lays160 (by kernel_rfl) s t w hs (by omega) (ascii_of_all h2)
end Go.Proofs.YtollfaphadcnnaaDoor
