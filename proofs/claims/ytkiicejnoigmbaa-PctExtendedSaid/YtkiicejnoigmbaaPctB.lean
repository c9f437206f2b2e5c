/- What strings.Cut at a sign, pct.Extended and the reference's Small come to at this program: walks. -/
import Derived.Test.YtkiicejnoigmbaaPct
import Derived.Shelf.Strings.Cut
import Derived.Test.YtkiicejnoigmbaaLow
set_option linter.unusedVariables false
namespace Go.Proofs.Ytkiicejnoigmbaa
open Go.RowKit Plain

set_option maxHeartbeats 2000000 in
theorem liteCut_one (s : ByteArray) (c : UInt8) (w : World) (hs : s.size ≤ 140737488351232) :
    Calls Try.prog 33 #[.string s, .string ⟨#[c]⟩] w fun e w' => e = .returned (.tuple #[.string ⟨(Lib.cut s.data.toList [c]).1.toArray⟩, .string ⟨(Lib.cut s.data.toList [c]).2.1.toArray⟩, .bool (Lib.cut s.data.toList [c]).2.2]) ∧ ∃ n, w' = w.drewN n := by
  have hidx : Lib.indexByte s.data.toList c = Lib.indexB s ⟨#[c]⟩ := (Lib.index_one s.data.toList c).symm
  rcases Lib.indexB_cases s ⟨#[c]⟩ with hix | ⟨i, hix, hroom⟩
  · obtain ⟨e1, e2, e3⟩ := Lib.cutB_miss s ⟨#[c]⟩ hix
    simp only at e1 e2 e3
    rw [e1, e2, e3]
    have hI := Lib.hid (hidx.trans hix)
    clear e1 e2 e3 hidx hix
    go_enter Try.func33, Try.ntmps33
    go_wp2_with fail
    refine (Try.stringslite_Index_one _ _ _).mono ?_
    rintro e w' ⟨rfl, rfl⟩
    rw [hI.out]
    go_wp2
    go_ret3
    exact ⟨rfl, 0, rfl⟩
  · obtain ⟨e1, e2, e3⟩ := Lib.cutB_hit s ⟨#[c]⟩ i hix
    simp only at e1 e2 e3
    rw [e1, e2, e3]
    have hI := Lib.hid (hidx.trans hix)
    have hroom' : i + 1 ≤ s.size := hroom
    have c1 : (0 : Int) ≤ ↑i := by omega
    have c2 : (↑i : Int) ≤ ↑s.size := by omega
    have c3 : (0 : Int) ≤ ↑i + 1 := by omega
    have c4 : (↑i + 1 : Int) ≤ ↑s.size := by omega
    clear e1 e2 e3 hidx hix
    go_enter Try.func33, Try.ntmps33
    go_wp2_with fail
    refine (Try.stringslite_Index_one _ _ _).mono ?_
    rintro e w' ⟨rfl, rfl⟩
    rw [hI.out]
    go_wp2_with fail
    go_quiet (fail)
    go_wp2
    go_ret3
    exact ⟨rfl, _, rfl⟩

set_option maxHeartbeats 1000000 in
theorem cut_one (s : ByteArray) (c : UInt8) (w : World) (hs : s.size ≤ 140737488351232) :
    Calls Try.prog 28 #[.string s, .string ⟨#[c]⟩] w fun e w' => e = .returned (.tuple #[.string ⟨(Lib.cut s.data.toList [c]).1.toArray⟩, .string ⟨(Lib.cut s.data.toList [c]).2.1.toArray⟩, .bool (Lib.cut s.data.toList [c]).2.2]) ∧ ∃ n, w' = w.drewN n := by
  go_enter Try.func28, Try.ntmps28
  go_wp2_with fail
  refine (liteCut_one s c w hs).mono ?_
  rintro e w' ⟨rfl, n, rfl⟩
  go_wp2
  go_ret3
  exact ⟨rfl, n, rfl⟩

theorem low_up : ∀ c : UInt8, 65 ≤ (c.toNat : Int) → (c.toNat : Int) ≤ 90 → ((low c).toNat : Int) = c.toNat + 32 := u8_all (by decide +kernel)
theorem low_up' : ∀ c : UInt8, 65 ≤ (c.toNat : Int) → (c.toNat : Int) ≤ 90 → ((low c).toNat : Int) = (c.toNat : Int) - 65 + 97 := u8_all (by decide +kernel)
theorem low_no : ∀ c : UInt8, ¬ (65 ≤ (c.toNat : Int) ∧ (c.toNat : Int) ≤ 90) → low c = c := u8_all (by decide +kernel)

set_option maxHeartbeats 2000000 in
theorem small_any (s : ByteArray) (w : World) (hs : s.size ≤ 140737488351232) :
    Calls Try.prog 29 #[.string s] w fun e w' => e = .returned (.string ⟨(small s.data.toList).toArray⟩) ∧ Below w.heap.size w w' := by
  have hcv := Lib.run_convert_string_bytes (P := Try.prog) w 9 30 5 s Try.underlying9 Try.underlying30 Try.underlying5
  have hst := LowRow.start w 5 s
  have hbw := below_bytes w 5 s
  generalize Lib.bytesWorld w 5 s = w1 at *
  generalize grownCap w s.size 0 5 = cap at *
  have HST := Lib.hid hst
  have HBW := Lib.hid hbw
  clear hst hbw
  go_enter Try.func29, Try.ntmps29
  go_wp2
  clear hcv
  go_loopw [4] (fun i wr => ∃ k : Nat, k ≤ s.size ∧ i = .int .i64 k ∧ Hid (LowRow w.heap.size s k wr) ∧ Hid (Below w.heap.size w wr)) (fun i _ => s.size - (intOf i).toNat)
  case atStart => exact ⟨0, Nat.zero_le _, rfl, HST, HBW⟩
  case round =>
    obtain ⟨k, hk, rfl, HL, Hb⟩ := hrel
    by_cases hlt : k < s.size
    · have hc := (HL.out.cell hlt).1
      have hf := (HL.out.cell hlt).2
      have hc256 := s[k].toNat_lt
      by_cases hu : 65 ≤ (s[k].toNat : Int) ∧ (s[k].toNat : Int) ≤ 90
      · obtain ⟨h1, h2⟩ := hu
        have hlow := Lib.hid (low_up s[k] h1 h2)
        go_wp2
        go_roundw
        case rel => exact ⟨k + 1, by omega, by go_num, Lib.hid (by have := HL.out.put hlt; rw [hlow.out] at this; exact this), Lib.hid (Hb.out.setCell (p := ⟨w.heap.size, k, none⟩) (Nat.le_refl _) _)⟩
        case measure => simp [intOf]; omega
      · have hlow := Lib.hid (low_no s[k] hu)
        by_cases h1 : 65 ≤ (s[k].toNat : Int)
        all_goals
          first | (have h2 : ¬ (s[k].toNat : Int) ≤ 90 := fun h => hu ⟨h1, h⟩) | skip
          clear hu
          go_wp2
          go_roundw
          case rel => exact ⟨k + 1, by omega, by go_num, Lib.hid (HL.out.keep hlt hlow.out), Hb⟩
          case measure => simp [intOf]; omega
    · obtain rfl : k = s.size := by omega
      have hcv := HL.out.string 30 9 5 cap Try.underlying30 Try.underlying5 Try.underlying9
      go_wp2
      go_ret
      exact ⟨rfl, Hb.out⟩

theorem cutQ_none : ∀ l, cutQ l = none → Lib.indexByte l 39 = -1
  | [], _ => rfl
  | c :: r, h => by
    unfold cutQ at h
    by_cases hc : c = 39
    · rw [if_pos hc] at h; cases h
    · rw [if_neg hc] at h
      have h' : cutQ r = none := by simpa using h
      unfold Lib.indexByte
      rw [if_neg (by simpa using hc), cutQ_none r h']; rfl
theorem cutQ_some : ∀ l a r, cutQ l = some (a, r) → Lib.indexByte l 39 = a.length ∧ l = a ++ 39 :: r
  | [], _, _, h => by cases h
  | c :: l, a, r, h => by
    unfold cutQ at h
    by_cases hc : c = 39
    · rw [if_pos hc] at h
      cases h
      subst hc
      exact ⟨rfl, rfl⟩
    · rw [if_neg hc] at h
      obtain ⟨⟨a', r'⟩, h1, h2⟩ := Option.map_eq_some_iff.1 h
      cases h2
      obtain ⟨h3, h4⟩ := cutQ_some l a' r' h1
      unfold Lib.indexByte
      rw [if_neg (by simpa using hc), h3, if_neg (by simp), h4]
      exact ⟨by simp, rfl⟩
theorem cut_none {l : List UInt8} (h : cutQ l = none) : Lib.cut l [39] = (l, [], false) := by
  unfold Lib.cut
  rw [Lib.index_one, cutQ_none l h]; rfl
theorem cut_some {l a r : List UInt8} (h : cutQ l = some (a, r)) : Lib.cut l [39] = (a, r, true) := by
  obtain ⟨h1, h2⟩ := cutQ_some l a r h
  unfold Lib.cut
  rw [Lib.index_one, h1, if_pos (by omega), h2]
  simp

theorem below_le {w1 w2 : World} {B C : Nat} (k : Below C w1 w2) (hB : B ≤ C) : Below B w1 w2 := ⟨k.os, k.tape, k.output, k.size, fun i hi => k.block i (Nat.lt_of_lt_of_le hi hB)⟩

set_option maxHeartbeats 4000000 in
theorem extended_any (s : ByteArray) (w : World) (hs : s.size ≤ 140737488351232) :
    Calls Try.prog 14 #[.string s] w fun e w' => e = .returned (.tuple #[.string ⟨(ext s.data.toList).1.toArray⟩, .string ⟨(ext s.data.toList).2.1.toArray⟩, .bool (ext s.data.toList).2.2]) ∧ Below w.heap.size w w' := by
  cases h1 : cutQ s.data.toList with
  | none =>
    have hx : ext s.data.toList = ([], [], false) := by unfold ext; rw [h1]
    rw [hx]
    have e1 := Lib.hid (cut_none h1)
    have e2 := Lib.hid (cut_none (l := []) rfl)
    clear h1 hx
    go_enter Try.func14, Try.ntmps14
    go_wp2_with fail
    refine (cut_one s 39 _ hs).mono ?_
    rintro e w1 ⟨rfl, n1, rfl⟩
    rw [e1.out]
    go_wp2_with fail
    refine (cut_one _ 39 _ (by decide)).mono ?_
    rintro e w1 ⟨rfl, n2, rfl⟩
    rw [e2.out]
    go_wp2
    go_ret3
    exact ⟨rfl, below_drewN' (Below.refl _ _) _⟩
  | some p =>
    obtain ⟨a, r⟩ := p
    obtain ⟨_, hsl⟩ := cutQ_some _ _ _ h1
    have hsz : s.size = a.length + r.length + 1 := by
      have := congrArg List.length hsl
      simp at this; omega
    have e1 := Lib.hid (cut_some h1)
    cases h2 : cutQ r with
    | none =>
      have hx : ext s.data.toList = ([], [], false) := by unfold ext; rw [h1]; simp only; rw [h2]
      rw [hx]
      have e2 := Lib.hid (cut_none h2)
      clear h1 hx h2 hsl
      go_enter Try.func14, Try.ntmps14
      go_wp2_with fail
      refine (cut_one s 39 _ hs).mono ?_
      rintro e w1 ⟨rfl, n1, rfl⟩
      rw [e1.out]
      go_wp2_with fail
      refine (cut_one ⟨r.toArray⟩ 39 _ (by show r.toArray.size ≤ _; simp; omega)).mono ?_
      rintro e w1 ⟨rfl, n2, rfl⟩
      rw [show (⟨r.toArray⟩ : ByteArray).data.toList = r from rfl, e2.out]
      go_wp2
      go_ret3
      exact ⟨rfl, below_drewN' (Below.refl _ _) _⟩
    | some p2 =>
      obtain ⟨b, v⟩ := p2
      obtain ⟨_, hrl⟩ := cutQ_some _ _ _ h2
      have hrz : r.length = b.length + v.length + 1 := by
        have := congrArg List.length hrl
        simp at this; omega
      have hx : ext s.data.toList = (small a, dec v, true) := by unfold ext; rw [h1]; simp only; rw [h2]
      rw [hx]
      have e2 := Lib.hid (cut_some h2)
      clear h1 hx h2 hsl hrl
      go_enter Try.func14, Try.ntmps14
      go_wp2_with fail
      refine (cut_one s 39 _ hs).mono ?_
      rintro e w1 ⟨rfl, n1, rfl⟩
      rw [e1.out]
      go_wp2_with fail
      refine (cut_one ⟨r.toArray⟩ 39 _ (by show r.toArray.size ≤ _; simp; omega)).mono ?_
      rintro e w1 ⟨rfl, n2, rfl⟩
      rw [show (⟨r.toArray⟩ : ByteArray).data.toList = r from rfl, e2.out]
      clear e1 e2
      go_wp2_with fail
      have hb0 := below_drewN' (Below.refl w.heap.size w) (n1 + n2)
      have hz0 : (w.drewN (n1 + n2)).heap.size = w.heap.size := rfl
      have HW : Hid (w.heap.size ≤ (w.drewN (n1 + n2)).heap.size) := Lib.hid (Nat.le_refl _)
      generalize w.drewN (n1 + n2) = W at *
      have hasz : (⟨a.toArray⟩ : ByteArray).size ≤ 140737488351232 := by simp [ByteArray.size]; omega
      have haL : Hid (small (⟨a.toArray⟩ : ByteArray).data.toList = small a) := Lib.hid rfl
      generalize (⟨a.toArray⟩ : ByteArray) = aB at *
      have hcv := Lib.run_convert_string_bytes (P := Try.prog) W 9 30 5 aB Try.underlying9 Try.underlying30 Try.underlying5
      have hst := LowRow.start W 5 aB
      have hbw := below_bytes W 5 aB
      generalize Lib.bytesWorld W 5 aB = w1 at *
      generalize grownCap W aB.size 0 5 = cap at *
      have HST := Lib.hid hst
      have HBW : Hid (Below w.heap.size w w1) := Lib.hid (hb0.trans (by rw [← hz0]; exact hbw))
      clear hst hbw hb0 hz0
      rw [hcv]
      simp only [Result.andThen]
      rw [Oper.upon_value]
      clear hcv
      go_wp2
      go_loopw [36] (fun i wr => ∃ k : Nat, k ≤ aB.size ∧ i = .int .i64 k ∧ Hid (LowRow W.heap.size aB k wr) ∧ Hid (Below w.heap.size w wr)) (fun i _ => aB.size - (intOf i).toNat)
      case atStart => exact ⟨0, Nat.zero_le _, rfl, HST, HBW⟩
      case round =>
        obtain ⟨k, hk, rfl, HL, Hb⟩ := hrel
        by_cases hlt : k < aB.size
        · have hc := (HL.out.cell hlt).1
          have hf := (HL.out.cell hlt).2
          have hc256 := aB[k].toNat_lt
          by_cases hu : 65 ≤ (aB[k].toNat : Int) ∧ (aB[k].toNat : Int) ≤ 90
          · obtain ⟨h1, h2⟩ := hu
            have hlow := Lib.hid (low_up' aB[k] h1 h2)
            go_wp2
            go_roundw
            case rel => exact ⟨k + 1, by omega, by go_num, Lib.hid (by have := HL.out.put hlt; rw [hlow.out] at this; exact this), Lib.hid (Hb.out.setCell (p := ⟨W.heap.size, k, none⟩) HW.out _)⟩
            case measure => simp [intOf]; omega
          · have hlow := Lib.hid (low_no aB[k] hu)
            by_cases h1 : 65 ≤ (aB[k].toNat : Int)
            all_goals
              first | (have h2 : ¬ (aB[k].toNat : Int) ≤ 90 := fun h => hu ⟨h1, h⟩) | skip
              clear hu
              go_wp2
              go_roundw
              case rel => exact ⟨k + 1, by omega, by go_num, Lib.hid (HL.out.keep hlt hlow.out), Hb⟩
              case measure => simp [intOf]; omega
        · obtain rfl : k = aB.size := by omega
          have HLd : Hid (LowRow W.heap.size aB aB.size wr.drew) := Lib.hid HL.out
          have Hbd : Hid (Below w.heap.size w wr.drew) := Lib.hid Hb.out.drew
          have HBd : Hid (wr.drew.heap.size = wr.heap.size) := Lib.hid rfl
          have HS : Hid (w.heap.size ≤ wr.heap.size) := Lib.hid Hb.out.size
          have hcv := HLd.out.string 30 9 5 cap Try.underlying30 Try.underlying5 Try.underlying9
          have hv : (⟨v.toArray⟩ : ByteArray).size ≤ 140737488351232 := by simp [ByteArray.size]; omega
          clear HL Hb
          go_wp2_with fail
          go_region_with (first | (go_at_call 10; refine (decode_any _ _ hv).mono ?_; rintro e w5 ⟨rfl, hb5⟩; have hcv5 := (HLd.out.below hb5).string 30 9 5 cap Try.underlying30 Try.underlying5 Try.underlying9; have Hb5 := Lib.hid hb5; clear hb5))
          all_goals
            go_wp2
            go_ret3
            refine ⟨?_, Hbd.out.trans (below_le Hb5.out HS.out)⟩
            rw [haL.out]
            rfl

theorem digits_str : ∀ c : UInt8, (0 ≤ (c.toNat : Int) / 16 ∧ (c.toNat : Int) / 16 ≤ 15) ∧ (0 ≤ (c.toNat : Int) % 16 ∧ (c.toNat : Int) % 16 ≤ 15) ∧
    (⟨#[48, 49, 50, 51, 52, 53, 54, 55, 56, 57, 65, 66, 67, 68, 69, 70]⟩ : ByteArray).extract ((c.toNat : Int) / 16).toNat ((c.toNat : Int) / 16 + 1).toNat ++ (⟨#[48, 49, 50, 51, 52, 53, 54, 55, 56, 57, 65, 66, 67, 68, 69, 70]⟩ : ByteArray).extract ((c.toNat : Int) % 16).toNat ((c.toNat : Int) % 16 + 1).toNat = ⟨#[dig (c.toNat / 16), dig (c.toNat % 16)]⟩ := u8_all (by decide +kernel)

set_option maxHeartbeats 1000000 in
theorem digits_any (c : UInt8) (w : World) :
    Calls Try.prog 27 #[.int .u8 c.toNat] w fun e w' => e = .returned (.string ⟨#[dig (c.toNat / 16), dig (c.toNat % 16)]⟩) ∧ Below w.heap.size w w' := by
  obtain ⟨⟨h1, h2⟩, ⟨h3, h4⟩, h5⟩ := digits_str c
  have H5 := Lib.hid h5
  have hc := c.toNat_lt
  have h6 : (c.toNat : Int) / 16 ≤ (c.toNat : Int) / 16 + 1 := by omega
  have h7 : (c.toNat : Int) / 16 + 1 ≤ 16 := by omega
  have h8 : (c.toNat : Int) % 16 ≤ (c.toNat : Int) % 16 + 1 := by omega
  have h9 : (c.toNat : Int) % 16 + 1 ≤ 16 := by omega
  clear h5
  go_enter Try.func27, Try.ntmps27
  go_wp2
  go_quiet (fail)
  go_wp2
  go_ret
  refine ⟨?_, below_drewN' (Below.refl _ _) _⟩
  rw [← H5.out]
  rfl
end Go.Proofs.Ytkiicejnoigmbaa
