/- PctBack: what is encoded is decoded, also as a value that tells its alphabet; all of its bytes are such as stay, or signs: for every input, no condition. -/
import Derived.Test.YtkiicejnoigmbaaRefs
import Derived.Test.YtkiicejnoigmbaaPrx3
namespace Go.Proofs.Ytkiicejnoigmbaa.Pure
open Go.RowKit Go.Proofs.Ytkiicejnoigmbaa.Pr Go.Proofs.YtkiicejnoigmbaaW.PrintWords Go.Proofs.YtkiicejnoigmbaaW.PrintLast Plain

theorem ext_x (l : List UInt8) : ext ([120, 39, 39] ++ l) = ([120], dec l, true) := by
  show ext (120 :: 39 :: 39 :: l) = _
  unfold ext
  simp [cutQ, small, low]

theorem back_l0 (s : ByteArray) (t : ByteArray) (ht : t.data.toList = enc s.data.toList) (hz : t.size ≤ 140737488351232) (a b : ByteArray) (ha : a.toList = [120]) (hb : b.toList = s.toList) :
    ∀ (d i : Nat), t.size - i = d → i ≤ t.size → ∀ k, d + 1 ≤ k → muslinlaw03_PctBack.l0 k s t a b true (i : Int) = some true := by
  intro d
  induction d with
  | zero =>
    intro i hd hi k hk
    obtain ⟨k, rfl⟩ : ∃ m, k = m + 1 := ⟨k - 1, by omega⟩
    simp only [muslinlaw03_PctBack.l0]
    rw [if_neg (by omega)]
    unfold pct_Decode.f
    rw [if_pos hz, live_true]
    simp only [Option.bind_some, if_true]
    rw [if_pos (by rw [Lib.toList_data, Lib.toList_data, ht, dec_enc]), if_pos ha, if_pos hb]
  | succ d ih =>
    intro i hd hi k hk
    obtain ⟨k, rfl⟩ : ∃ m, k = m + 1 := ⟨k - 1, by omega⟩
    have hlt : i < t.size := by omega
    have hnx : wrap64 ((i : Int) + 1) = ((i + 1 : Nat) : Int) := by rw [w64 (by omega) (by omega)]; omega
    have hgo := ih (i + 1) (by omega) (by omega) k (by omega)
    have hmem : stays (gt t i) = true ∨ gt t i = 37 := by
      apply enc_mem s.data.toList
      rw [← ht]
      have := drop_gt t i hlt
      have : gt t i ∈ t.data.toList.drop i := by rw [this]; simp
      exact List.mem_of_mem_drop this
    simp only [muslinlaw03_PctBack.l0]
    rw [if_pos (by omega), if_pos (by omega), bt_gt, letter_ref, digit_ref, hnx, hgo]
    simp only [Option.bind_some]
    by_cases hL : isL (gt t i) = true
    · rw [if_pos hL]
    · rw [if_neg hL]
      by_cases hD : isD (gt t i) = true
      · rw [if_pos hD]
      · rw [if_neg hD]
        rcases hmem with h | h
        · have hM : isM (gt t i) = true := by simpa [stays, hL, hD] using h
          have hm := (isM_num _).1 hM
          by_cases h1 : ((gt t i).toNat : Int) = 45
          · rw [if_pos h1]
          · rw [if_neg h1]
            by_cases h2 : ((gt t i).toNat : Int) = 46
            · rw [if_pos h2]
            · rw [if_neg h2]
              by_cases h3 : ((gt t i).toNat : Int) = 95
              · rw [if_pos h3]
              · rw [if_neg h3, if_pos (by omega)]
        · rw [h]; decide

theorem PctBack : muslinlaw03_PctBack.Pure := by
  intro s hs
  by_cases h : (s.size : Int) ≤ 5000
  · have h1 := enc_len s.data.toList
    have e1 : (⟨(enc s.data.toList).toArray⟩ : ByteArray).size = (enc s.data.toList).length := by simp [ByteArray.size]
    have e3 : s.data.toList.length = s.size := by simp
    refine ⟨(enc s.data.toList).length + 1, ?_⟩
    unfold muslinlaw03_PctBack.f muslinlaw03_short.f
    simp only [Option.bind_some, decide_eq_true_eq, live_true]
    rw [if_pos h]
    have ee : pct_Encode.f s = some ⟨(enc s.data.toList).toArray⟩ := by unfold pct_Encode.f; rw [if_pos (by omega)]
    rw [ee]
    simp only [Option.bind_some]
    rw [if_pos (by omega)]
    have hx : pct_Extended.f ((⟨#[120, 39, 39]⟩ : ByteArray) ++ ⟨(enc s.data.toList).toArray⟩) = some (⟨#[120]⟩, s, true) := by
      unfold pct_Extended.f
      have ez : ((⟨#[120, 39, 39]⟩ : ByteArray) ++ ⟨(enc s.data.toList).toArray⟩).data.toList = [120, 39, 39] ++ enc s.data.toList := by simp
      have es : ((⟨#[120, 39, 39]⟩ : ByteArray) ++ ⟨(enc s.data.toList).toArray⟩).size = 3 + (enc s.data.toList).length := by
        rw [ByteArray.size_append, e1]; rfl
      rw [if_pos (by omega), ez, ext_x, dec_enc]
    rw [hx]
    simp only [Option.bind_some]
    exact back_l0 s _ rfl (by omega) _ _ (by rw [Lib.toList_data]) rfl _ 0 rfl (by omega) _ (by rw [e1]; omega)
  · refine ⟨0, ?_⟩
    unfold muslinlaw03_PctBack.f muslinlaw03_short.f
    simp only [Option.bind_some, decide_eq_true_eq, live_true]
    rw [if_neg h]
end Go.Proofs.Ytkiicejnoigmbaa.Pure
