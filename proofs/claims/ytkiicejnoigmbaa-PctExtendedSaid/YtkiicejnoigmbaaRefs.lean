/- What the printed references of chapter 3 come to, in the plain functions; and the document's examples. -/
import Derived.Test.YtkiicejnoigmbaaPrx2
namespace Go.Proofs.Ytkiicejnoigmbaa.Pure
open Go.RowKit Go.Proofs.Ytkiicejnoigmbaa.Pr Go.Proofs.YtkiicejnoigmbaaW.PrintWords Go.Proofs.YtkiicejnoigmbaaW.PrintLast Plain

def numsOf (l : List UInt8) : List Int := l.map fun c => (c.toNat : Int)
theorem strOf_nums (l : List UInt8) : strOfNums (numsOf l) = ⟨l.toArray⟩ := by
  unfold strOfNums numsOf
  rw [List.map_map]
  congr 2
  conv => rhs; rw [← List.map_id l]
  apply List.map_congr_left
  intro c _
  simp
theorem numsOf_snoc (l : List UInt8) (c : UInt8) : numsOf l ++ [(c.toNat : Int)] = numsOf (l ++ [c]) := by simp [numsOf]
theorem numsOf_length (l : List UInt8) : (numsOf l).length = l.length := by simp [numsOf]
theorem bytesOf_nums (l : List UInt8) : bytesOf ⟨l.toArray⟩ = numsOf l := by simp [bytesOf, numsOf]
def gt (s : ByteArray) (j : Nat) : UInt8 := s.data.toList.getD j 0
theorem bt_gt (s : ByteArray) (j : Nat) : bt s (j : Int) = ((gt s j).toNat : Int) := by
  unfold bt gt
  rw [Int.toNat_natCast]
  split
  · rename_i h
    rw [List.getD_eq_getElem?_getD, List.getElem?_eq_getElem (by simpa using h)]
    rfl
  · rename_i h
    rw [List.getD_eq_getElem?_getD, List.getElem?_eq_none (by simpa using h)]
    rfl
theorem drop_gt (s : ByteArray) (j : Nat) (h : j < s.size) : s.data.toList.drop j = gt s j :: s.data.toList.drop (j + 1) := by
  have hl : j < s.data.toList.length := by simpa using h
  rw [List.drop_eq_getElem_cons hl]
  unfold gt
  rw [List.getD_eq_getElem?_getD, List.getElem?_eq_getElem hl]
  rfl
theorem drop_end (s : ByteArray) (j : Nat) (h : s.size ≤ j) : s.data.toList.drop j = [] := List.drop_eq_nil_of_le (by simpa using h)
theorem w64 {i : Int} (h0 : -9223372036854775808 ≤ i) (h1 : i ≤ 9223372036854775807) : wrap64 i = i := by unfold wrap64; omega

theorem hex2 : ∀ c : UInt8, muslinref02_Hex.f 2 (c.toNat : Int) = some (hv c) := u8_all (by decide +kernel)
theorem hex_ref (c : UInt8) (k : Nat) (hk : 2 ≤ k) : muslinref02_Hex.f k (c.toNat : Int) = some (hv c) := at_rounds (fun k => muslinref02_Hex.mono _ k) hk (hex2 c)

theorem isHex_drop (s : ByteArray) (i : Nat) : isHex (s.data.toList.drop (i + 1)) = (decide (i + 2 < s.size) && (decide (0 ≤ hv (gt s (i + 1))) && decide (0 ≤ hv (gt s (i + 2))))) := by
  by_cases h : i + 2 < s.size
  · rw [drop_gt s (i + 1) (by omega), drop_gt s (i + 1 + 1) (by omega)]
    simp [isHex, h]
  · rw [decide_eq_false h, Bool.false_and]
    by_cases h1 : i + 1 < s.size
    · rw [drop_gt s (i + 1) h1, drop_end s (i + 1 + 1) (by omega)]; rfl
    · rw [drop_end s (i + 1) (by omega)]; rfl
theorem dec_drop_hex (s : ByteArray) (i : Nat) (h : i + 2 < s.size) (h0 : gt s i = 37) (h1 : 0 ≤ hv (gt s (i + 1))) (h2 : 0 ≤ hv (gt s (i + 2))) :
    dec (s.data.toList.drop i) = join (gt s (i + 1)) (gt s (i + 2)) :: dec (s.data.toList.drop (i + 3)) := by
  rw [drop_gt s i (by omega), dec_cons, if_pos ⟨h0, by rw [isHex_drop]; simp [h, h1, h2]⟩, drop_gt s (i + 1) (by omega), drop_gt s (i + 1 + 1) (by omega)]
  rfl
theorem dec_drop_no (s : ByteArray) (i : Nat) (h : i < s.size) (hn : ¬ (gt s i = 37 ∧ (i + 2 < s.size ∧ 0 ≤ hv (gt s (i + 1)) ∧ 0 ≤ hv (gt s (i + 2))))) :
    dec (s.data.toList.drop i) = gt s i :: dec (s.data.toList.drop (i + 1)) := by
  rw [drop_gt s i h, dec_cons, if_neg]
  rintro ⟨h0, h1⟩
  rw [isHex_drop] at h1
  simp at h1
  exact hn ⟨h0, h1⟩
theorem gt37 (c : UInt8) : ((c.toNat : Int) = 37) ↔ c = 37 := by
  constructor
  · intro h; apply UInt8.toNat_inj.1; show c.toNat = 37; omega
  · rintro rfl; rfl
theorem join_num (a b : UInt8) (ha : 0 ≤ hv a) (hb : 0 ≤ hv b) : (wrap64 (wrap64 (16 * hv a) + hv b)) % 256 = ((join a b).toNat : Int) := by
  rw [join_nat a b ha hb]
  have h1 := hv_le a
  have h2 := hv_le b
  rw [w64 (i := 16 * hv a) (by omega) (by omega), w64 (i := 16 * hv a + hv b) (by omega) (by omega)]
  omega

theorem dec_l0 (s : ByteArray) (hs : s.size ≤ 140737488351232) : ∀ (d i : Nat) (o : List UInt8), s.size - i = d → i ≤ s.size → o.length ≤ i → ∀ k, 2 * d + 5 ≤ k →
    muslinref03_Decode.l0 k s (numsOf o) (i : Int) = some ⟨(o ++ dec (s.data.toList.drop i)).toArray⟩ := by
  intro d
  induction d using Nat.strongRecOn with
  | _ d ih =>
  intro i o hd hi ho k hk
  obtain ⟨k, rfl⟩ : ∃ m, k = m + 2 := ⟨k - 2, by omega⟩
  simp only [muslinref03_Decode.l0]
  by_cases hlt : i < s.size
  · rw [if_pos (by omega), if_pos (by omega), w64 (i := (i : Int) + 2) (by omega) (by omega), w64 (i := (i : Int) + 1) (by omega) (by omega)]
    have e1 : ((i : Int) + 1) = ((i + 1 : Nat) : Int) := by omega
    have e2 : ((i : Int) + 2) = ((i + 2 : Nat) : Int) := by omega
    rw [e1, e2, bt_gt, bt_gt, bt_gt, hex_ref _ _ (by omega), hex_ref _ _ (by omega)]
    simp only [Option.bind_some]
    have hno : ∀ (hn : ¬ (gt s i = 37 ∧ (i + 2 < s.size ∧ 0 ≤ hv (gt s (i + 1)) ∧ 0 ≤ hv (gt s (i + 2))))), muslinref03_Decode.j1 (k + 1) s (numsOf o) (i : Int) false = some ⟨(o ++ dec (s.data.toList.drop i)).toArray⟩ := by
      intro hn
      simp only [muslinref03_Decode.j1]
      rw [if_neg (by simp), if_pos (by omega), if_pos (by omega), if_pos (by rw [numsOf_length]; omega), bt_gt, numsOf_snoc, w64 (by omega) (by omega), e1, ih (s.size - (i + 1)) (by omega) (i + 1) (o ++ [gt s i]) rfl (by omega) (by simp; omega) k (by omega), dec_drop_no s i hlt hn]
      simp
    by_cases h37 : gt s i = 37
    · rw [if_pos ((gt37 _).2 h37)]
      by_cases h2 : i + 2 < s.size
      · rw [if_pos (by omega), if_pos (by omega), if_pos (by omega)]
        by_cases ha : 0 ≤ hv (gt s (i + 1))
        · rw [if_pos ha, if_pos (by omega)]
          by_cases hb : 0 ≤ hv (gt s (i + 2))
          · rw [decide_eq_true (show hv (gt s (i + 2)) ≥ 0 from hb)]
            simp only [muslinref03_Decode.j1]
            rw [if_pos trivial, w64 (i := (i : Int) + 2) (by omega) (by omega), w64 (i := (i : Int) + 1) (by omega) (by omega), if_pos (by omega), if_pos (by omega), e1, e2, bt_gt, bt_gt, hex_ref _ _ (by omega), hex_ref _ _ (by omega)]
            simp only [Option.bind_some]
            rw [if_pos (by omega), if_pos (by omega), if_pos (by rw [numsOf_length]; omega), join_num _ _ ha hb, numsOf_snoc, w64 (by omega) (by omega), show (((i + 2 : Nat) : Int) + 1) = ((i + 3 : Nat) : Int) by omega,
              ih (s.size - (i + 3)) (by omega) (i + 3) _ rfl (by omega) (by simp; omega) k (by omega), dec_drop_hex s i h2 h37 ha hb]
            simp
          · rw [decide_eq_false (show ¬ hv (gt s (i + 2)) ≥ 0 from hb)]
            exact hno (fun h => hb h.2.2.2)
        · rw [if_neg ha]
          exact hno (fun h => ha h.2.2.1)
      · rw [if_neg (by omega)]
        exact hno (fun h => h2 h.2.1)
    · rw [if_neg (fun h => h37 ((gt37 _).1 h))]
      exact hno (fun h => h37 h.1)
  · rw [if_neg (by omega), strOf_nums, drop_end s i (by omega), dec_nil, List.append_nil]
theorem dec_ref (s : ByteArray) (hs : s.size ≤ 140737488351232) (k : Nat) (hk : 2 * s.size + 5 ≤ k) : muslinref03_Decode.f k s = some ⟨(dec s.data.toList).toArray⟩ := by
  have := dec_l0 s hs s.size 0 [] (by omega) (by omega) (by simp) k hk
  rw [List.nil_append, List.drop_zero] at this
  exact this

theorem letter_ref : ∀ c : UInt8, muslinref03_Letter.f (c.toNat : Int) = some (isL c) := u8_all (by decide +kernel)
theorem digit_ref : ∀ c : UInt8, muslinref03_Digit.f (c.toNat : Int) = some (isD c) := u8_all (by decide +kernel)
theorem isM_num : ∀ c : UInt8, (isM c = true ↔ ((c.toNat : Int) = 45 ∨ (c.toNat : Int) = 46 ∨ (c.toNat : Int) = 95 ∨ (c.toNat : Int) = 126)) := u8_all (by decide +kernel)
theorem digits_ref (c : UInt8) : muslinref02_Digits.f (c.toNat : Int) = some ⟨#[dig (c.toNat / 16), dig (c.toNat % 16)]⟩ := by
  have := c.toNat_lt
  unfold muslinref02_Digits.f
  rw [if_pos (by omega), Int.toNat_natCast]

theorem enc_l0 (s : ByteArray) (hs : s.size ≤ 46912496117077) : ∀ (d i : Nat) (o : List UInt8), s.size - i = d → i ≤ s.size → o.length ≤ 3 * i → ∀ k, d + 1 ≤ k →
    muslinref03_Encode.l0 k s (numsOf o) (i : Int) = some ⟨(o ++ enc (s.data.toList.drop i)).toArray⟩ := by
  intro d
  induction d with
  | zero =>
    intro i o hd hi ho k hk
    obtain ⟨k, rfl⟩ : ∃ m, k = m + 1 := ⟨k - 1, by omega⟩
    simp only [muslinref03_Encode.l0]
    rw [if_neg (by omega), strOf_nums, drop_end s i (by omega), enc_nil, List.append_nil]
  | succ d ih =>
    intro i o hd hi ho k hk
    obtain ⟨k, rfl⟩ : ∃ m, k = m + 1 := ⟨k - 1, by omega⟩
    have hlt : i < s.size := by omega
    have e : enc (s.data.toList.drop i) = encB (gt s i) ++ enc (s.data.toList.drop (i + 1)) := by
      rw [drop_gt s i hlt]; simp [enc]
    have hnx : ((i : Int) + 1) = ((i + 1 : Nat) : Int) := by omega
    have hyes : stays (gt s i) = true → (if (numsOf o).length < 140737488355328 then muslinref03_Encode.l0 k s (numsOf o ++ [((gt s i).toNat : Int)]) (wrap64 ((i : Int) + 1)) else none) = some ⟨(o ++ enc (s.data.toList.drop i)).toArray⟩ := by
      intro hst
      rw [if_pos (by rw [numsOf_length]; omega), numsOf_snoc, w64 (by omega) (by omega), hnx, ih (i + 1) (o ++ [gt s i]) (by omega) (by omega) (by simp; omega) k (by omega), e]
      unfold encB
      rw [if_pos hst]
      simp
    simp only [muslinref03_Encode.l0]
    rw [if_pos (by omega), if_pos (by omega), bt_gt, letter_ref, digit_ref]
    simp only [Option.bind_some]
    by_cases hL : isL (gt s i) = true
    · rw [if_pos hL]; exact hyes (by simp [stays, hL])
    · rw [if_neg hL]
      by_cases hD : isD (gt s i) = true
      · rw [if_pos hD]; exact hyes (by simp [stays, hD])
      · rw [if_neg hD]
        by_cases hM : isM (gt s i) = true
        · have hm := (isM_num _).1 hM
          have hy := hyes (by simp [stays, hM])
          by_cases h1 : ((gt s i).toNat : Int) = 45
          · rw [if_pos h1]; exact hy
          · rw [if_neg h1]
            by_cases h2 : ((gt s i).toNat : Int) = 46
            · rw [if_pos h2]; exact hy
            · rw [if_neg h2]
              by_cases h3 : ((gt s i).toNat : Int) = 95
              · rw [if_pos h3]; exact hy
              · rw [if_neg h3, if_pos (by omega)]; exact hy
        · have hm := fun h => hM ((isM_num _).2 h)
          rw [if_neg (fun h => hm (.inl h)), if_neg (fun h => hm (.inr (.inl h))), if_neg (fun h => hm (.inr (.inr (.inl h)))), if_neg (fun h => hm (.inr (.inr (.inr h)))),
            if_pos (by rw [numsOf_length]; omega), digits_ref]
          simp only [Option.bind_some]
          have e37 : numsOf o ++ [37] = numsOf (o ++ [37]) := by simp [numsOf]
          rw [e37, show (⟨#[dig ((gt s i).toNat / 16), dig ((gt s i).toNat % 16)]⟩ : ByteArray) = ⟨[dig ((gt s i).toNat / 16), dig ((gt s i).toNat % 16)].toArray⟩ from rfl, bytesOf_nums]
          rw [if_pos (by rw [numsOf_length]; simp [ByteArray.size]; omega)]
          have e2 : numsOf (o ++ [37]) ++ numsOf [dig ((gt s i).toNat / 16), dig ((gt s i).toNat % 16)] = numsOf (o ++ encB (gt s i)) := by
            unfold encB
            rw [if_neg (by simp [stays, hL, hD, hM])]
            simp [numsOf]
          have hb := (encB_len (gt s i)).2
          rw [e2, w64 (by omega) (by omega), hnx, ih (i + 1) (o ++ encB (gt s i)) (by omega) (by omega) (by simp; omega) k (by omega), e]
          simp
theorem enc_ref (s : ByteArray) (hs : s.size ≤ 46912496117077) (k : Nat) (hk : s.size + 1 ≤ k) : muslinref03_Encode.f k s = some ⟨(enc s.data.toList).toArray⟩ := by
  have := enc_l0 s hs s.size 0 [] (by omega) (by omega) (by simp) k hk
  rw [List.nil_append, List.drop_zero] at this
  exact this

theorem live_true : muslinlaw03_live.f = some true := by decide +kernel
end Go.Proofs.Ytkiicejnoigmbaa.Pure
