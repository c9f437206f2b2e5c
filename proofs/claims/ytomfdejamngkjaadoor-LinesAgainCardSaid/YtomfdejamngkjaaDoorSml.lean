/- Letters made small; whether a text is a name. -/
import Derived.Test.YtomfdejamngkjaaDoorShelf
import Derived.Test.YtomfdejamngkjaaDoorBld
import Derived.Test.YtomfdejamngkjaaDoorLow
import Derived.Deep.RegionWith
import Derived.Deep.QuietTactic
import Derived.BigQuiet
import Derived.StillTailTactics
import Derived.Lib.Hide
import Derived.Laws.RangeAny
import Derived.Laws.Runes
import Derived.Lib.CutLaws
import Derived.Lib.IndexBytes
import Derived.Lib.ConvBytes
import Derived.Deep.DeepCutAuto
set_option linter.unusedVariables false
set_option linter.unusedSimpArgs false
namespace Go.Proofs.YtomfdejamngkjaaDoor
open Go.RowKit Plain
theorem u8_all {P : UInt8 → Prop} (h : ∀ n : Fin 256, P (UInt8.ofNat n.val)) (c : UInt8) : P c := by
  have := h ⟨c.toNat, c.toNat_lt⟩
  simpa using this
theorem low_up : ∀ c : UInt8, 65 ≤ (c.toNat : Int) → (c.toNat : Int) ≤ 90 → ((low c).toNat : Int) = c.toNat + 32 := u8_all (by decide +kernel)
theorem low_up' : ∀ c : UInt8, 65 ≤ (c.toNat : Int) → (c.toNat : Int) ≤ 90 → ((low c).toNat : Int) = (c.toNat : Int) - 65 + 97 := u8_all (by decide +kernel)
theorem low_no : ∀ c : UInt8, ¬ (65 ≤ (c.toNat : Int) ∧ (c.toNat : Int) ≤ 90) → low c = c := u8_all (by decide +kernel)

set_option maxHeartbeats 2000000 in
theorem refSmall_any (s : ByteArray) (w : World) (hs : s.size ≤ 140737488351232) :
    Calls Tryd.prog 37 #[.string s] w fun e w' => e = .returned (.string ⟨(small s.data.toList).toArray⟩) ∧ Below w.heap.size w w' := by
  have hcv := Lib.run_convert_string_bytes (P := Tryd.prog) w 9 60 5 s Tryd.underlying9 Tryd.underlying60 Tryd.underlying5
  have hst := LowRow.start w 5 s
  have hbw := below_bytes w 5 s
  generalize Lib.bytesWorld w 5 s = w1 at *
  generalize grownCap w s.size 0 5 = cap at *
  have HST := Lib.hid hst
  have HBW := Lib.hid hbw
  clear hst hbw
  go_enter Tryd.func37, Tryd.ntmps37
  go_wp2
  clear hcv
  go_loopw [4] (fun i wr => ∃ k : Nat, k ≤ s.size ∧ i = .int .i64 k ∧ Hid (LowRow w.heap.size s k wr) ∧ Hid (Below w.heap.size w wr)) (fun i _ => s.size - (intOf i).toNat)
  case atStart => exact ⟨0, Nat.zero_le _, rfl, HST, HBW⟩
  case round =>
    obtain ⟨k, hk, rfl, HL, Hb⟩ := hrel
    by_cases hlt : k < s.size
    · have hc := (HL.out.cell hlt).1
      have hf := (HL.out.cell hlt).2
      have hc256 := s[k].toNat_lt
      by_cases hu : 65 ≤ (s[k].toNat : Int) ∧ (s[k].toNat : Int) ≤ 90
      · obtain ⟨h1, h2⟩ := hu
        have hlow := Lib.hid (low_up s[k] h1 h2)
        go_wp2
        go_roundw
        case rel => exact ⟨k + 1, by omega, by go_num, Lib.hid (by have := HL.out.put hlt; rw [hlow.out] at this; exact this), Lib.hid (Hb.out.setCell (p := ⟨w.heap.size, k, none⟩) (Nat.le_refl _) _)⟩
        case measure => simp [intOf]; omega
      · have hlow := Lib.hid (low_no s[k] hu)
        by_cases h1 : 65 ≤ (s[k].toNat : Int)
        all_goals
          first | (have h2 : ¬ (s[k].toNat : Int) ≤ 90 := fun h => hu ⟨h1, h⟩) | skip
          clear hu
          go_wp2
          go_roundw
          case rel => exact ⟨k + 1, by omega, by go_num, Lib.hid (HL.out.keep hlt hlow.out), Hb⟩
          case measure => simp [intOf]; omega
    · obtain rfl : k = s.size := by omega
      have hcv := HL.out.string 60 9 5 cap Tryd.underlying60 Tryd.underlying5 Tryd.underlying9
      go_wp2
      go_ret
      exact ⟨rfl, Hb.out⟩
set_option maxHeartbeats 2000000 in
theorem small_any (s : ByteArray) (w : World) (hs : s.size ≤ 140737488351232) :
    Calls Tryd.prog 25 #[.string s] w fun e w' => e = .returned (.string ⟨(small s.data.toList).toArray⟩) ∧ Below w.heap.size w w' := by
  have hcv := Lib.run_convert_string_bytes (P := Tryd.prog) w 9 60 5 s Tryd.underlying9 Tryd.underlying60 Tryd.underlying5
  have hst := LowRow.start w 5 s
  have hbw := below_bytes w 5 s
  generalize Lib.bytesWorld w 5 s = w1 at *
  generalize grownCap w s.size 0 5 = cap at *
  have HST := Lib.hid hst
  have HBW := Lib.hid hbw
  clear hst hbw
  go_enter Tryd.func25, Tryd.ntmps25
  go_wp2
  clear hcv
  go_loopw [10] (fun i wr => ∃ k : Nat, k ≤ s.size ∧ i = .int .i64 k ∧ Hid (LowRow w.heap.size s k wr) ∧ Hid (Below w.heap.size w wr)) (fun i _ => s.size - (intOf i).toNat)
  case atStart => exact ⟨0, Nat.zero_le _, rfl, HST, HBW⟩
  case round =>
    obtain ⟨k, hk, rfl, HL, Hb⟩ := hrel
    by_cases hlt : k < s.size
    · have hc := (HL.out.cell hlt).1
      have hf := (HL.out.cell hlt).2
      have hc256 := s[k].toNat_lt
      by_cases hu : 65 ≤ (s[k].toNat : Int) ∧ (s[k].toNat : Int) ≤ 90
      · obtain ⟨h1, h2⟩ := hu
        have hlow := Lib.hid (low_up' s[k] h1 h2)
        go_wp2
        go_roundw
        case rel => exact ⟨k + 1, by omega, by go_num, Lib.hid (by have := HL.out.put hlt; rw [hlow.out] at this; exact this), Lib.hid (Hb.out.setCell (p := ⟨w.heap.size, k, none⟩) (Nat.le_refl _) _)⟩
        case measure => simp [intOf]; omega
      · have hlow := Lib.hid (low_no s[k] hu)
        by_cases h1 : 65 ≤ (s[k].toNat : Int)
        all_goals
          first | (have h2 : ¬ (s[k].toNat : Int) ≤ 90 := fun h => hu ⟨h1, h⟩) | skip
          clear hu
          go_wp2
          go_roundw
          case rel => exact ⟨k + 1, by omega, by go_num, Lib.hid (HL.out.keep hlt hlow.out), Hb⟩
          case measure => simp [intOf]; omega
    · obtain rfl : k = s.size := by omega
      have hcv := HL.out.string 60 9 5 cap Tryd.underlying60 Tryd.underlying5 Tryd.underlying9
      go_wp2
      go_ret
      exact ⟨rfl, Hb.out⟩

/-! ### isName -/
/-- Is a sign none that a name may have? -/
def badR (n : Nat) : Bool := decide ((n : Int) < 33) || decide ((n : Int) > 126) || decide ((n : Int) = 58)
def badB (c : UInt8) : Bool := badR c.toNat
theorem badR_high {n : Nat} (h : 128 ≤ n) : badR n = true := by
  unfold badR
  rw [decide_eq_true (show (n : Int) > 126 by omega)]; simp
theorem dec_ascii (s : ByteArray) (i : Nat) (h : i < s.size) (ha : s[i].toNat < 128) : Utf8.decode s i = (s[i].toNat, 1) := by
  simp only [Utf8.decode, get_at s i h, ha, if_true]
theorem idx_bad (s : ByteArray) : ∀ (f i : Nat), s.size - i ≤ f → (0 ≤ Lib.idxFuncFrom badR true s f i ↔ (s.data.toList.drop i).any badB = true) := by
  intro f
  induction f with
  | zero =>
    intro i hi
    rw [List.drop_eq_nil_of_le (by simp; omega)]
    unfold Lib.idxFuncFrom
    simp
  | succ f ih =>
    intro i hi
    unfold Lib.idxFuncFrom
    by_cases h : i < s.size
    · rw [if_pos h]
      have hd : s.data.toList.drop i = s[i] :: s.data.toList.drop (i + 1) := by
        rw [List.drop_eq_getElem_cons (by simpa using h)]; rfl
      rw [hd, List.any_cons]
      by_cases ha : s[i].toNat < 128
      · rw [dec_ascii s i h ha]
        show 0 ≤ (if badR s[i].toNat = true then (i : Int) else Lib.idxFuncFrom badR true s f (i + 1)) ↔ (badR s[i].toNat || _) = true
        cases hb : badR s[i].toNat with
        | true => simp
        | false =>
          rw [if_neg (by simp), Bool.false_or]
          exact ih (i + 1) (by omega)
      · have h1 := (decode_high s i h (by omega)).1
        rw [badR_high h1, if_pos rfl]
        have : badB s[i] = true := badR_high (by omega)
        rw [this]
        simp
    · rw [if_neg h, List.drop_eq_nil_of_le (by simp; omega)]
      simp
theorem badFun_at (w : World) : PredAt Tryd.prog 55 #[] encR badR w := by
  intro W x hb
  unfold FnGives
  show Calls Tryd.prog 55 #[.int .i32 x] W _
  unfold badR
  by_cases h1 : (x : Int) < 33
  · rw [decide_eq_true h1]
    go_enter Tryd.func55, Tryd.ntmps55
    go_wp2
    go_ret
    exact ⟨rfl, 0, rfl⟩
  · rw [decide_eq_false h1]
    by_cases h2 : (x : Int) > 126
    · rw [decide_eq_true h2]
      have h3 : 126 < (x : Int) := h2
      go_enter Tryd.func55, Tryd.ntmps55
      go_wp2
      go_ret
      exact ⟨rfl, 0, rfl⟩
    · rw [decide_eq_false h2]
      have h3 : (x : Int) ≤ 126 := by omega
      go_enter Tryd.func55, Tryd.ntmps55
      go_wp2
      go_ret
      refine ⟨?_, 0, rfl⟩
      have e : ((x : Int) == 58) = decide ((x : Int) = 58) := by rw [Bool.eq_iff_iff]; simp
      rw [e]; simp
theorem containsBad (s : ByteArray) (w : World) :
    Calls Tryd.prog 54 #[.string s, .func (.func 55) #[] #[]] w fun e w' => e = .returned (.bool (s.data.toList.any badB)) ∧ Below w.heap.size w w' := by
  refine (Tryd.strings_ContainsFunc 55 #[] (enters_of Tryd.func55 (by kernel_rfl) rfl) badR s w (badFun_at w)).mono ?_
  rintro e w' ⟨rfl, hb⟩
  refine ⟨?_, hb⟩
  have := idx_bad s s.size 0 (by omega)
  rw [List.drop_zero] at this
  congr 2
  unfold Lib.idxFunc
  cases h : s.data.toList.any badB with
  | true => exact decide_eq_true (this.2 h)
  | false => exact decide_eq_false (fun h2 => by rw [this.1 h2] at h; cases h)
/-- May a text be a field's name? -/
def nameB (l : List UInt8) : Bool := !l.isEmpty && !l.any badB
set_option maxHeartbeats 1000000 in
theorem isName_any (s : ByteArray) (w : World) :
    Calls Tryd.prog 32 #[.string s] w fun e w' => e = .returned (.bool (nameB s.data.toList)) ∧ Below w.heap.size w w' := by
  have HN : Hid (nameB s.data.toList = (!s.data.toList.isEmpty && !s.data.toList.any badB)) := Lib.hid rfl
  cases he : s.data.toList.isEmpty with
  | true =>
    have h1 : (s.toList != ([] : List UInt8)) = false := by rw [Lib.toList_data, List.isEmpty_iff.1 he]; rfl
    have h2 : (!s.toList.isEmpty) = false := by rw [Lib.toList_data, he]; rfl
    have HE := Lib.hid he
    clear he
    go_enter Tryd.func32, Tryd.ntmps32
    go_wp2
    go_ret
    exact ⟨by rw [HN.out, HE.out]; rfl, Below.refl _ _⟩
  | false =>
    have h2 : (!s.toList.isEmpty) = true := by rw [Lib.toList_data, he]; rfl
    have h1 : (s.toList != ([] : List UInt8)) = true := by
      rw [bne_iff_ne, Lib.toList_data]; intro e; rw [e] at he; cases he
    have HE := Lib.hid he
    clear he
    go_enter Tryd.func32, Tryd.ntmps32
    go_wp2_with fail
    refine (containsBad s w).mono ?_
    rintro e w' ⟨rfl, hb⟩
    have Hb := Lib.hid hb
    clear hb
    go_wp2
    go_ret
    exact ⟨by rw [HN.out, HE.out]; simp, Hb.out⟩
end Go.Proofs.YtomfdejamngkjaaDoor
