/- PctExtended: the alphabet and the bytes of any value, or that it tells none, are the document's: for every input, no condition. -/
import Derived.Test.YtkiicejnoigmbaaRefs
import Derived.Test.YtkiicejnoigmbaaPrx3
namespace Go.Proofs.Ytkiicejnoigmbaa.Pure
open Go.RowKit Go.Proofs.Ytkiicejnoigmbaa.Pr Go.Proofs.YtkiicejnoigmbaaW.PrintWords Go.Proofs.YtkiicejnoigmbaaW.PrintLast Plain

theorem gt39 (c : UInt8) : ((c.toNat : Int) = 39) ↔ c = 39 := by
  constructor
  · intro h; apply UInt8.toNat_inj.1; show c.toNat = 39; omega
  · rintro rfl; rfl
theorem cutQ_drop (s : ByteArray) (i : Nat) (h : i < s.size) : cutQ (s.data.toList.drop i) = if gt s i = 39 then some ([], s.data.toList.drop (i + 1)) else (cutQ (s.data.toList.drop (i + 1))).map fun p => (gt s i :: p.1, p.2) := by
  rw [drop_gt s i h]; rfl
theorem upto_list (s : ByteArray) (k : Nat) : (s.extract 0 k).data.toList = s.data.toList.take k := by
  simp
def second (s : ByteArray) (f : Nat) (o : Option (List UInt8 × List UInt8)) : ByteArray × ByteArray × Bool := match o with
  | none => (⟨#[]⟩, ⟨#[]⟩, false)
  | some p => (⟨(small (s.data.toList.take f)).toArray⟩, ⟨(dec p.2).toArray⟩, true)
theorem second_map (s : ByteArray) (f : Nat) (c : UInt8) (o : Option (List UInt8 × List UInt8)) : second s f (o.map fun p => (c :: p.1, p.2)) = second s f o := by cases o <;> rfl

theorem ext_two (s : ByteArray) (hs : s.size ≤ 5000) (f : Nat) (hf : f ≤ s.size) : ∀ (d i : Nat), s.size - i = d → i ≤ s.size → ∀ k, 2 * s.size + 6 + d ≤ k →
    muslinref03_Extended.l0 k s (f : Int) (i : Int) = some (second s f (cutQ (s.data.toList.drop i))) := by
  intro d
  induction d with
  | zero =>
    intro i hd hi k hk
    obtain ⟨k, rfl⟩ : ∃ m, k = m + 1 := ⟨k - 1, by omega⟩
    simp only [muslinref03_Extended.l0]
    rw [if_neg (by omega), drop_end s i (by omega)]
    rfl
  | succ d ih =>
    intro i hd hi k hk
    obtain ⟨k, rfl⟩ : ∃ m, k = m + 1 := ⟨k - 1, by omega⟩
    have hlt : i < s.size := by omega
    have hnx : wrap64 ((i : Int) + 1) = ((i + 1 : Nat) : Int) := by rw [w64 (by omega) (by omega)]; omega
    simp only [muslinref03_Extended.l0]
    rw [if_pos (by omega), if_pos (by omega), bt_gt, hnx, cutQ_drop s i hlt]
    by_cases h : gt s i = 39
    · rw [if_pos ((gt39 _).2 h), if_pos h, if_pos (by omega), if_pos (by omega), if_pos (by omega), Int.toNat_natCast, Int.toNat_natCast]
      unfold muslinref03_Small.f
      rw [if_pos (by simp; omega)]
      simp only [Option.bind_some]
      rw [if_pos (by omega), if_pos (by omega), dec_ref _ (by simp; omega) k (by simp; omega)]
      simp only [Option.bind_some]
      rw [upto_list, Lib.extract_to_end]
      rfl
    · rw [if_neg (fun h' => h ((gt39 _).1 h')), if_neg h, second_map]
      exact ih (i + 1) (by omega) (by omega) k (by omega)

theorem ext_one (s : ByteArray) (hs : s.size ≤ 5000) : ∀ (d i : Nat), s.size - i = d → i ≤ s.size → (cutQ s.data.toList = (cutQ (s.data.toList.drop i)).map fun p => (s.data.toList.take i ++ p.1, p.2)) → ∀ k, 2 * s.size + 6 + d ≤ k →
    muslinref03_Extended.l0 k s (-1) (i : Int) = some (⟨(ext s.data.toList).1.toArray⟩, ⟨(ext s.data.toList).2.1.toArray⟩, (ext s.data.toList).2.2) := by
  intro d
  induction d with
  | zero =>
    intro i hd hi H k hk
    obtain ⟨k, rfl⟩ : ∃ m, k = m + 1 := ⟨k - 1, by omega⟩
    simp only [muslinref03_Extended.l0]
    rw [if_neg (by omega)]
    rw [drop_end s i (by omega)] at H
    have H' : cutQ s.data.toList = none := H
    unfold ext
    rw [H']
  | succ d ih =>
    intro i hd hi H k hk
    obtain ⟨k, rfl⟩ : ∃ m, k = m + 1 := ⟨k - 1, by omega⟩
    have hlt : i < s.size := by omega
    have hnx : wrap64 ((i : Int) + 1) = ((i + 1 : Nat) : Int) := by rw [w64 (by omega) (by omega)]; omega
    simp only [muslinref03_Extended.l0]
    rw [if_pos (by omega), if_pos (by omega), bt_gt, hnx]
    rw [cutQ_drop s i hlt] at H
    by_cases h : gt s i = 39
    · rw [if_pos ((gt39 _).2 h), if_neg (by omega), ext_two s hs i hi d (i + 1) (by omega) (by omega) k (by omega)]
      rw [if_pos h] at H
      have H' : cutQ s.data.toList = some (s.data.toList.take i, s.data.toList.drop (i + 1)) := by rw [H]; simp
      unfold ext
      rw [H']
      simp only
      cases cutQ (s.data.toList.drop (i + 1)) <;> rfl
    · rw [if_neg (fun h' => h ((gt39 _).1 h'))]
      refine ih (i + 1) (by omega) (by omega) ?_ k (by omega)
      rw [if_neg h] at H
      rw [H, Option.map_map]
      congr 1
      funext p
      simp only [Function.comp]
      have : s.data.toList.take (i + 1) = s.data.toList.take i ++ [gt s i] := by
        rw [List.take_succ_eq_append_getElem (by simpa using hlt)]
        unfold gt
        rw [List.getD_eq_getElem?_getD, List.getElem?_eq_getElem (by simpa using hlt)]
        rfl
      rw [this]; simp

theorem PctExtended : muslinlaw03_PctExtended.Pure := by
  intro s hs
  refine ⟨3 * s.size + 6, ?_⟩
  unfold muslinlaw03_PctExtended.f muslinlaw03_short.f
  simp only [Option.bind_some, decide_eq_true_eq, live_true]
  by_cases h : (s.size : Int) ≤ 5000
  · rw [if_pos h]
    have hr : muslinref03_Extended.f (3 * s.size + 6) s = _ := ext_one s (by omega) s.size 0 (by omega) (by omega) (by simp) (3 * s.size + 6) (by omega)
    unfold pct_Extended.f
    rw [if_pos hs, hr]
    simp
  · rw [if_neg h]
end Go.Proofs.Ytkiicejnoigmbaa.Pure
