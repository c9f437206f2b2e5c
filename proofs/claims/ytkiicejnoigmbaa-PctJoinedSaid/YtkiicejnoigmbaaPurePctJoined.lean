/- PctJoined: texts one behind the other are encoded as one behind the other; and so decoded, where no per cent sign stands near the first one's end: for every input, no condition. -/
import Derived.Test.YtkiicejnoigmbaaRefs
import Derived.Test.YtkiicejnoigmbaaPrx3
namespace Go.Proofs.Ytkiicejnoigmbaa.Pure
open Go.RowKit Go.Proofs.Ytkiicejnoigmbaa.Pr Go.Proofs.YtkiicejnoigmbaaW.PrintWords Go.Proofs.YtkiicejnoigmbaaW.PrintLast Plain

theorem app_list (a b : ByteArray) : (a ++ b).data.toList = a.data.toList ++ b.data.toList := by simp
theorem app_size (a b : ByteArray) : (a ++ b).size = a.size + b.size := by simp

theorem joined_l0 (s t : ByteArray) (hs : s.size ≤ 5000) (ht : t.size ≤ 5000) :
    ∀ (d i : Nat), s.size - i = d → i ≤ s.size → (∀ j, s.size - 2 ≤ j → j < i → gt s j ≠ 37) → s.size - 2 ≤ i → ∀ k, d + 1 ≤ k → muslinlaw03_PctJoined.l0 k s t (i : Int) = some true := by
  intro d
  induction d with
  | zero =>
    intro i hd hi hn h2 k hk
    obtain ⟨k, rfl⟩ : ∃ m, k = m + 1 := ⟨k - 1, by omega⟩
    simp only [muslinlaw03_PctJoined.l0]
    rw [if_neg (by omega), if_pos (by omega)]
    unfold pct_Decode.f
    rw [if_pos (by rw [app_size]; omega), if_pos (by omega), if_pos (by omega), live_true]
    simp only [Option.bind_some]
    have l1 := dec_len _ s.data.toList (Nat.le_refl _)
    have l2 := dec_len _ t.data.toList (Nat.le_refl _)
    have z1 : s.data.toList.length = s.size := by simp
    have z2 : t.data.toList.length = t.size := by simp
    have e1 : (⟨(dec s.data.toList).toArray⟩ : ByteArray).size = (dec s.data.toList).length := by simp [ByteArray.size]
    have e2 : (⟨(dec t.data.toList).toArray⟩ : ByteArray).size = (dec t.data.toList).length := by simp [ByteArray.size]
    rw [e1, e2, if_pos (by omega), if_pos]
    rw [Lib.toList_data, Lib.toList_data, app_list, app_list, dec_append _ s.data.toList t.data.toList (Nat.le_refl _)]
    intro j h1 h2
    exact hn j (by omega) (by omega)
  | succ d ih =>
    intro i hd hi hn h2 k hk
    obtain ⟨k, rfl⟩ : ∃ m, k = m + 1 := ⟨k - 1, by omega⟩
    have hnx : wrap64 ((i : Int) + 1) = ((i + 1 : Nat) : Int) := by rw [w64 (by omega) (by omega)]; omega
    simp only [muslinlaw03_PctJoined.l0]
    rw [if_pos (by omega), if_pos (by omega), bt_gt, hnx, live_true]
    simp only [Option.bind_some]
    by_cases h : gt s i = 37
    · rw [if_pos ((gt37 _).2 h)]
    · rw [if_neg (fun h' => h ((gt37 _).1 h'))]
      exact ih (i + 1) (by omega) (by omega) (fun j h1 h3 => by
        by_cases e : j = i
        · rw [e]; exact h
        · exact hn j h1 (by omega)) (by omega) k (by omega)

theorem PctJoined : muslinlaw03_PctJoined.Pure := by
  intro s t hs ht
  refine ⟨s.size + 2, ?_⟩
  unfold muslinlaw03_PctJoined.f muslinlaw03_short.f
  simp only [Option.bind_some, decide_eq_true_eq]
  have hlive : muslinlaw03_PctJoined.j0 (s.size + 2) s t true = some true := by
    simp only [muslinlaw03_PctJoined.j0, live_true]; rfl
  by_cases h : (s.size : Int) ≤ 5000
  · rw [if_pos h]
    by_cases h' : (t.size : Int) ≤ 5000
    · rw [decide_eq_true h']
      simp only [muslinlaw03_PctJoined.j0, Bool.not_true]
      rw [if_neg (by simp), if_pos (by omega)]
      unfold pct_Encode.f
      rw [if_pos (by rw [app_size]; omega), if_pos (by omega), if_pos (by omega)]
      simp only [Option.bind_some]
      have l1 := enc_len s.data.toList
      have l2 := enc_len t.data.toList
      have z1 : s.data.toList.length = s.size := by simp
      have z2 : t.data.toList.length = t.size := by simp
      have e1 : (⟨(enc s.data.toList).toArray⟩ : ByteArray).size = (enc s.data.toList).length := by simp [ByteArray.size]
      have e2 : (⟨(enc t.data.toList).toArray⟩ : ByteArray).size = (enc t.data.toList).length := by simp [ByteArray.size]
      rw [e1, e2, if_pos (by omega), if_pos (by rw [Lib.toList_data, Lib.toList_data, app_list, app_list, enc_append]), w64 (by omega) (by omega)]
      have em : mx ((s.size : Int) - 2) 0 = ((s.size - 2 : Nat) : Int) := by unfold mx; split <;> omega
      rw [em]
      exact joined_l0 s t (by omega) (by omega) _ (s.size - 2) rfl (by omega) (fun j h1 h2 => by omega) (Nat.le_refl _) _ (by omega)
    · rw [decide_eq_false h']
      exact hlive
  · rw [if_neg h]
    exact hlive
end Go.Proofs.Ytkiicejnoigmbaa.Pure
