/- Where, Fold and Open over lists: plain laws. -/
import Derived.Test.YtdgdilbbpnlplaaDoorOpenR
import Derived.Test.YtdgdilbbpnlplaaDoorPureTree
set_option linter.unusedVariables false
set_option linter.unusedSimpArgs false
namespace Go.Proofs.YtdgdilbbpnlplaaDoor
open Go.RowKit Go.Shelf Pr Go.Proofs.YtdgdilbbpnlplaaDoorW.PrintWords Go.Proofs.YtdgdilbbpnlplaaDoorW.PrintLast Go.Proofs.YtdgdilbbpnlplaaDoorW.PrintMore
def tN (b : List UInt8) : S32 := ⟨⟨#[]⟩, [], ⟨b.toArray⟩, []⟩
def nN (b : List UInt8) (k : List S32) : S32 := ⟨⟨b.toArray⟩, [], ⟨#[]⟩, k⟩
def qN : S32 := nN [98, 108, 111, 99, 107, 113, 117, 111, 116, 101] [tN [98]]
def liveL : List S32 := [tN [97], qN, nN [98, 114] [], tN [32, 194, 160], qN]
theorem w1 : whereL liveL = (1, true) := by decide +kernel
theorem w2 : whereL (liveL.drop 1) = (0, false) := by decide +kernel
theorem f1 : fit 3 liveL = true := by decide +kernel
theorem fo : foldL liveL = [tN [97], divN (liveL.drop 1)] := by
  unfold foldL
  rw [w1]
  rfl
theorem ff : fit 5 [tN [97], divN (liveL.drop 1)] = true := by decide +kernel
theorem isf : isFold (divN (liveL.drop 1)) = true := by decide +kernel
theorem op : openL [tN [97], divN (liveL.drop 1)] = liveL := by
  unfold openL
  rw [if_neg (by simp), if_pos (by exact isf)]
  rfl
theorem fitP : ∀ (d : Nat) (l : List S32), fit d l = true → Pure.Fit d l
  | 0, l, h => by unfold fit at h; cases l with
    | nil => rfl
    | cons _ _ => simp at h
  | d + 1, l, h => by
    obtain ⟨h1, h2⟩ := fit_elem h
    exact ⟨by omega, fun x hx => ⟨by have := (h2 x hx).1; omega, fitP d x.f3 (h2 x hx).2.2⟩⟩
theorem live_R {W : World} {b0 bL : Nat} (h0 : W.heap[b0]? = some (.cells #[.string ⟨#[]⟩, .slice none 0 0, .string ⟨#[98]⟩, .slice none 0 0] 32 (0, 0))) (hL : W.heap[bL]? = some (.cells #[.string ⟨#[]⟩, .slice none 0 0, .string ⟨#[97]⟩, .slice none 0 0, .string ⟨#[98, 108, 111, 99, 107, 113, 117, 111, 116, 101]⟩, .slice none 0 0, .string ⟨#[]⟩, .slice (some ⟨b0, 0, none⟩) 1 1, .string ⟨#[98, 114]⟩, .slice none 0 0, .string ⟨#[]⟩, .slice none 0 0, .string ⟨#[]⟩, .slice none 0 0, .string ⟨#[32, 194, 160]⟩, .slice none 0 0, .string ⟨#[98, 108, 111, 99, 107, 113, 117, 111, 116, 101]⟩, .slice none 0 0, .string ⟨#[]⟩, .slice (some ⟨b0, 0, none⟩) 1 1] 32 (0, 0))) (hne : b0 ≠ bL) :
    Kd.R k32 32 W 0 (fun _ => True) (.slice (some ⟨bL, 0, none⟩) 5 5) liveL := by
  have kid : Kd.R k32 32 W 0 (fun k => k = b0) (.slice (some ⟨b0, 0, none⟩) 1 1) [tN [98]] := by
    refine ⟨fun k hk => by simpa [Value.ownBlock] using hk.symm, _, ⟨rfl, .inr ⟨b0, 1, _, rfl, Nat.zero_le _, h0, Nat.le_refl _, by decide, rfl, rfl⟩⟩, ⟨rfl, fun j p hj => ?_⟩⟩
    rcases j with _ | j
    · cases hj
      exact k32_mkM W 0 _ (tN [98]) (Kd.R_nil _ _ _ _ _) (Kd.R_nil _ _ _ _ _)
    · simp at hj
  have hq : ∀ k, k = b0 → True ∧ some k ≠ (Value.slice (some ⟨bL, 0, none⟩) 5 5).ownBlock := fun k hk => ⟨trivial, by simp [Value.ownBlock]; omega⟩
  refine ⟨fun _ _ => trivial, _, ⟨rfl, .inr ⟨bL, 5, _, rfl, Nat.zero_le _, hL, Nat.le_refl _, by decide, rfl, rfl⟩⟩, ⟨rfl, fun j p hj => ?_⟩⟩
  match j, hj with
  | 0, hj => cases hj; exact k32_mkM W 0 _ (tN [97]) (Kd.R_nil _ _ _ _ _) (Kd.R_nil _ _ _ _ _)
  | 1, hj => cases hj; exact k32_mkM W 0 _ qN (Kd.R_nil _ _ _ _ _) (Kd.R_mono kid hq)
  | 2, hj => cases hj; exact k32_mkM W 0 _ (nN [98, 114] []) (Kd.R_nil _ _ _ _ _) (Kd.R_nil _ _ _ _ _)
  | 3, hj => cases hj; exact k32_mkM W 0 _ (tN [32, 194, 160]) (Kd.R_nil _ _ _ _ _) (Kd.R_nil _ _ _ _ _)
  | 4, hj => cases hj; exact k32_mkM W 0 _ qN (Kd.R_nil _ _ _ _ _) (Kd.R_mono kid hq)
  | (n + 5), hj => simp [liveL] at hj
set_option maxHeartbeats 4000000 in
set_option maxRecDepth 100000 in
theorem live_any (w : World) (hw : FdAt w) : Calls Tryd.prog 9 #[] w fun e w' => e = .returned (.bool true) ∧ Below w.heap.size w w' := by
  have hu32 := Tryd.underlying32
  have HW := Lib.hid hw
  clear hw
  go_enter Tryd.func9, Tryd.ntmps9
  go_wp2_with fail
  obtain ⟨W0, hW0⟩ : ∃ W0, ((w.alloc (.cells #[.string ⟨#[]⟩, .slice none 0 0, .string ⟨#[98]⟩, .slice none 0 0] 32)).alloc (.cells #[.string ⟨#[98, 108, 111, 99, 107, 113, 117, 111, 116, 101]⟩, .slice none 0 0, .string ⟨#[]⟩, .slice (some ⟨w.heap.size, 0, none⟩) 1 1] 32)).alloc (.cells #[.string ⟨#[]⟩, .slice none 0 0, .string ⟨#[97]⟩, .slice none 0 0, .string ⟨#[98, 108, 111, 99, 107, 113, 117, 111, 116, 101]⟩, .slice none 0 0, .string ⟨#[]⟩, .slice (some ⟨w.heap.size, 0, none⟩) 1 1, .string ⟨#[98, 114]⟩, .slice none 0 0, .string ⟨#[]⟩, .slice none 0 0, .string ⟨#[]⟩, .slice none 0 0, .string ⟨#[32, 194, 160]⟩, .slice none 0 0, .string ⟨#[98, 108, 111, 99, 107, 113, 117, 111, 116, 101]⟩, .slice none 0 0, .string ⟨#[]⟩, .slice (some ⟨w.heap.size, 0, none⟩) 1 1] 32) = W0 := ⟨_, rfl⟩
  have hB0 : Below w.heap.size w W0 := by rw [← hW0]; exact (((Below.refl _ _).alloc (Nat.le_refl _) _).alloc (by simp) _).alloc (by simp; omega) _
  have h0 : W0.heap[w.heap.size]? = some (.cells #[.string ⟨#[]⟩, .slice none 0 0, .string ⟨#[98]⟩, .slice none 0 0] 32 (0, 0)) := by
    rw [← hW0]; exact (Below.heap_alloc _ _ _ (by simp; omega)).trans ((Below.heap_alloc _ _ _ (by simp)).trans (heap_alloc_new w _))
  have hL : W0.heap[w.heap.size + 1 + 1]? = some (.cells #[.string ⟨#[]⟩, .slice none 0 0, .string ⟨#[97]⟩, .slice none 0 0, .string ⟨#[98, 108, 111, 99, 107, 113, 117, 111, 116, 101]⟩, .slice none 0 0, .string ⟨#[]⟩, .slice (some ⟨w.heap.size, 0, none⟩) 1 1, .string ⟨#[98, 114]⟩, .slice none 0 0, .string ⟨#[]⟩, .slice none 0 0, .string ⟨#[]⟩, .slice none 0 0, .string ⟨#[32, 194, 160]⟩, .slice none 0 0, .string ⟨#[98, 108, 111, 99, 107, 113, 117, 111, 116, 101]⟩, .slice none 0 0, .string ⟨#[]⟩, .slice (some ⟨w.heap.size, 0, none⟩) 1 1] 32 (0, 0)) := by
    rw [← hW0]
    have := heap_alloc_new ((w.alloc (.cells #[.string ⟨#[]⟩, .slice none 0 0, .string ⟨#[98]⟩, .slice none 0 0] 32)).alloc (.cells #[.string ⟨#[98, 108, 111, 99, 107, 113, 117, 111, 116, 101]⟩, .slice none 0 0, .string ⟨#[]⟩, .slice (some ⟨w.heap.size, 0, none⟩) 1 1] 32)) (.cells #[.string ⟨#[]⟩, .slice none 0 0, .string ⟨#[97]⟩, .slice none 0 0, .string ⟨#[98, 108, 111, 99, 107, 113, 117, 111, 116, 101]⟩, .slice none 0 0, .string ⟨#[]⟩, .slice (some ⟨w.heap.size, 0, none⟩) 1 1, .string ⟨#[98, 114]⟩, .slice none 0 0, .string ⟨#[]⟩, .slice none 0 0, .string ⟨#[]⟩, .slice none 0 0, .string ⟨#[32, 194, 160]⟩, .slice none 0 0, .string ⟨#[98, 108, 111, 99, 107, 113, 117, 111, 116, 101]⟩, .slice none 0 0, .string ⟨#[]⟩, .slice (some ⟨w.heap.size, 0, none⟩) 1 1] 32)
    simpa only [World.size_alloc] using this
  rw [hW0]
  have hC := (Kd.R_reads' (live_R h0 hL (by omega))).2.2
  have HC := Lib.hid hC
  have HB0 := Lib.hid hB0
  have HW0 := Lib.hid (HW.out.below hB0 (Nat.le_refl _))
  have HC1 := Lib.hid (Kd.C_drop (c := 5) hC (m := 1) (by decide) (by decide))
  clear hW0 h0 hL hC hB0
  refine (where_any _ 5 liveL W0 HC.out (by decide) HW0.out (szd_fit f1)).mono ?_
  rintro e W1 ⟨rfl, hb1⟩
  have HB1 := Lib.hid (HB0.out.trans (hb1.mono HB0.out.size))
  have HCa := Lib.hid (Kd.C_below HC.out hb1)
  have HCb := Lib.hid (Kd.C_below HC1.out hb1)
  clear hb1
  rw [w1]
  dsimp only
  go_wp2_with fail
  refine (where_any (some ⟨w.heap.size + 1 + 1, 4, none⟩) 4 (liveL.drop 1) W1 HCb.out (by decide) (HW.out.below HB1.out (Nat.le_refl _)) (szd_fit (d := 3) (by decide +kernel))).mono ?_
  rintro e W2 ⟨rfl, hb2⟩
  have HB2 := Lib.hid (HB1.out.trans (hb2.mono HB1.out.size))
  have HCc := Lib.hid (Kd.C_below HCa.out hb2)
  clear hb2 HCb HC1
  rw [w2]
  dsimp only
  go_wp2_with fail
  refine (fold_any (some ⟨w.heap.size + 1 + 1, 0, none⟩) 5 3 liveL W2 HCc.out (by decide) f1 (HW.out.below HB2.out (Nat.le_refl _))).mono ?_
  rintro e W3 ⟨v, rfl, hv, hb3⟩
  rw [fo] at hv
  obtain ⟨A7, c7, hvs⟩ := Kd.R_slice hv
  have hvs' : v = .slice A7 2 c7 := hvs
  subst hvs'
  have hC7 : Kd.C k32 W3 A7 2 [tN [97], divN (liveL.drop 1)] := (Kd.R_reads' hv).2.2
  have hc7 : 2 ≤ c7 := (Kd.R_reads' hv).2.1
  have HB3 := Lib.hid (HB2.out.trans (hb3.mono HB2.out.size))
  have HCd := Lib.hid (Kd.C_below HCc.out hb3)
  have HC7 := Lib.hid hC7
  obtain ⟨ad, A1, c1, A3, c3, ea, hx0, hx1, hx2, hx3, l1, g1, l3, g3⟩ := at_T32 hC7 1 (by omega) (by omega)
  subst ea
  rw [show Int.toNat 1 * 4 = 4 by rfl] at hx0 hx3
  have hx0' : W3.cell? (ad.add 4) = some (.string ⟨#[100, 105, 118]⟩) := hx0
  have hx3' : W3.cell? ⟨(ad.add 4).block, (ad.add 4).off + 3, none⟩ = some (.slice A3 4 c3) := hx3
  have ea : ad.add 4 = ⟨ad.block, ad.off + 4, none⟩ := by unfold Addr.add; simp
  rw [ea] at hx0' hx3'
  have hx3'' : W3.cell? ⟨ad.block, ad.off + 7, none⟩ = some (.slice A3 4 c3) := hx3'
  clear hb3 hv hvs hC7 hx0 hx1 hx2 hx3 l1 g1 l3 g3 ea
  dsimp only
  go_wp2_with fail
  refine (open_any (some ad) c7 5 [tN [97], divN (liveL.drop 1)] W3 HC7.out hc7 ff (HW.out.below HB3.out (Nat.le_refl _))).mono ?_
  rintro e W4 ⟨v, rfl, hv, hb4⟩
  rw [op] at hv
  obtain ⟨A9, c9, hvs⟩ := Kd.R_slice hv
  have hvs' : v = .slice A9 5 c9 := hvs
  subst hvs'
  have HC9 := Lib.hid (show Kd.C k32 W4 A9 liveL.length liveL from (Kd.R_reads' hv).2.2)
  have hc9 : 5 ≤ c9 := (Kd.R_reads' hv).2.1
  have HB4 := Lib.hid (HB3.out.trans (hb4.mono HB3.out.size))
  have HCe := Lib.hid (Kd.C_below HCd.out hb4)
  clear hb4 hv hvs
  dsimp only
  go_wp2_with fail
  obtain ⟨K, hK⟩ := (Pure.same_refl 3 liveL (fitP 3 liveL f1)).ex
  refine (muslinref14_Same.calls K A9 c9 liveL (some ⟨w.heap.size + 1 + 1, 0, none⟩) 5 liveL true W4 HC9.out hc9 HCe.out (by decide) hK).mono ?_
  rintro e W5 ⟨rfl, hb5⟩
  have HB5 := Lib.hid (HB4.out.trans (hb5.mono HB4.out.size))
  clear hb5
  dsimp only
  go_wp2
  go_ret
  exact ⟨rfl, HB5.out⟩
theorem tail_snoc (l : List S32) (x : S32) : tailN (l ++ [x]) = if tq x = true then tailN l + 1 else 0 := by
  unfold tailN
  rw [List.reverse_append, List.reverse_singleton, List.singleton_append, List.takeWhile_cons]
  split <;> simp_all
theorem getD_left (l : List S32) (x : S32) (i : Nat) (h : i < l.length) : (l ++ [x]).getD i z32 = l.getD i z32 := by
  rw [List.getD_eq_getElem?_getD, List.getD_eq_getElem?_getD, List.getElem?_append_left h]
theorem getD_last (l : List S32) (x : S32) : (l ++ [x]).getD l.length z32 = x := by
  rw [List.getD_eq_getElem?_getD, List.getElem?_append_right (Nat.le_refl _)]; simp
theorem first_snoc (l : List S32) (x : S32) : ∀ j, j ≤ l.length → firstJ (l ++ [x]) (j + 1) = if 0 ≤ firstJ l j then firstJ l j else if isQ x = true then (l.length : Int) else -1
  | 0, _ => by
    unfold firstJ
    have e : (l ++ [x]).length - 1 - 0 = l.length := by simp
    rw [e, getD_last]
    simp [firstJ]
  | j + 1, h => by
    have ih := first_snoc l x j (by omega)
    have e : (l ++ [x]).length - 1 - (j + 1) = l.length - 1 - j := by simp; omega
    rw [firstJ, e, getD_left _ _ _ (by omega), ih]
    rw [show firstJ l (j + 1) = if isQ (l.getD (l.length - 1 - j) z32) then ((l.length - 1 - j : Nat) : Int) else firstJ l j from rfl]
    by_cases hq : isQ (l.getD (l.length - 1 - j) z32) = true
    · rw [if_pos hq, if_pos hq, if_pos (by omega)]
    · rw [if_neg hq, if_neg hq]
theorem where_of {l : List S32} (h : (whereL l).2 = true) : ∃ k : Nat, firstJ l (tailN l) = (k : Int) ∧ k < l.length ∧ (l.take k).any (fun x => !isBl x) = true ∧ whereL l = ((k : Int), true) := by
  have hw := h
  unfold whereL at h
  split at h
  · cases h
  · rename_i hn
    have h0 : ¬ firstJ l (tailN l) < 0 := fun h => hn (.inl h)
    have h1 := firstJ_lo l _ (tailN_le l)
    obtain ⟨k, hk⟩ : ∃ k : Nat, firstJ l (tailN l) = (k : Int) := ⟨(firstJ l (tailN l)).toNat, by omega⟩
    refine ⟨k, hk, by omega, ?_, ?_⟩
    · cases ha : (l.take k).any (fun x => !isBl x) with
      | true => rfl
      | false => exact absurd (.inr (by rw [hk, Int.toNat_natCast]; exact ha)) hn
    · unfold whereL
      rw [if_neg hn, hk]
theorem where_snoc {l : List S32} (h : (whereL l).2 = true) (x : S32) (hx : tq x = true) : whereL (l ++ [x]) = whereL l := by
  obtain ⟨k, h1, h2, h3, h4⟩ := where_of h
  have hf : firstJ (l ++ [x]) (tailN (l ++ [x])) = (k : Int) := by
    rw [tail_snoc, if_pos hx, first_snoc _ _ _ (tailN_le l), h1, if_pos (by omega)]
  rw [h4]
  unfold whereL
  rw [hf, Int.toNat_natCast, List.take_append_of_le_length (by omega), h3, if_neg (by simp)]
theorem where_none {l : List S32} (x : S32) (hx : tq x = false) : whereL (l ++ [x]) = (0, false) := by
  have ht : tailN (l ++ [x]) = 0 := by rw [tail_snoc, hx]; rfl
  have hf : firstJ (l ++ [x]) (tailN (l ++ [x])) = -1 := by rw [ht]; rfl
  unfold whereL
  rw [hf]
  exact if_pos (.inl (by omega))
theorem tq_div (k : List S32) : tq (divN k) = false := by
  show (isQ (divN k) || isBl (divN k)) = false
  have e : (divN k).f0.toList = [100, 105, 118] := by rw [Lib.toList_data]; rfl
  unfold isQ isBl blankB
  rw [e]
  rfl
theorem fold_where (l : List S32) : (whereL (foldL l)).2 = false := by
  cases h : (whereL l).2 with
  | false =>
    have : foldL l = l := by unfold foldL; rw [h]; rfl
    rw [this, h]
  | true =>
    have : foldL l = l.take (whereL l).1.toNat ++ [divN (l.drop (whereL l).1.toNat)] := by unfold foldL; rw [h]; rfl
    rw [this, where_none _ (tq_div _)]
theorem isFold_div (k : List S32) : isFold (divN k) = true := by
  have e : (divN k).f0.toList = [100, 105, 118] := by rw [Lib.toList_data]; rfl
  unfold isFold
  rw [e]
  show (([100, 105, 118] : List UInt8) == [100, 105, 118] && markB [markA]) = true
  decide +kernel
theorem open_snoc (a k : List S32) : openL (a ++ [divN k]) = a ++ k := by
  unfold openL
  have hl : (a ++ [divN k]).length = a.length + 1 := by simp
  have he : lastN (a ++ [divN k]) = divN k := by unfold lastN; rw [hl, Nat.add_sub_cancel, getD_last]
  rw [if_neg (by omega), he, isFold_div, if_pos rfl, hl, Nat.add_sub_cancel, List.take_left']
  · rfl
  · rfl
theorem open_fold {l : List S32} (h : (whereL l).2 = true) : openL (foldL l) = l := by
  have : foldL l = l.take (whereL l).1.toNat ++ [divN (l.drop (whereL l).1.toNat)] := by unfold foldL; rw [h]; rfl
  rw [this, open_snoc, List.take_append_drop]
theorem fold_same {l : List S32} (h : (whereL l).2 = false) : foldL l = l := by unfold foldL; rw [h]; rfl
theorem where_zero {l : List S32} (h : (whereL l).2 = false) : (whereL l).1 = 0 := by
  unfold whereL at h ⊢
  split
  · rfl
  · rename_i hn; rw [if_neg hn] at h; cases h
theorem fold_len {l : List S32} {k : Nat} (h : whereL l = ((k : Int), true)) (hk : k < l.length) : foldL l = l.take k ++ [divN (l.drop k)] ∧ (foldL l).length = k + 1 := by
  have : foldL l = l.take k ++ [divN (l.drop k)] := by unfold foldL; rw [h]; rfl
  refine ⟨this, ?_⟩
  rw [this]; simp; omega
def mQ : S32 := ⟨⟨#[98, 108, 111, 99, 107, 113, 117, 111, 116, 101]⟩, [], ⟨#[]⟩, []⟩
def mB : S32 := ⟨⟨#[98, 114]⟩, [], ⟨#[]⟩, []⟩
def mX : S32 := ⟨⟨#[]⟩, [], ⟨#[120]⟩, []⟩
theorem tq_Q : tq mQ = true := by decide +kernel
theorem tq_B : tq mB = true := by decide +kernel
theorem tq_X : tq mX = false := by decide +kernel
theorem more_where {l : List S32} (h : (whereL l).2 = true) : whereL (l ++ [mQ] ++ [mB]) = whereL l := by
  have h1 := where_snoc h mQ tq_Q
  rw [where_snoc (by rw [h1]; exact h) mB tq_B, h1]
theorem more_none (l : List S32) : whereL (l ++ [mQ] ++ [mB] ++ [mX]) = (0, false) := where_none mX tq_X
end Go.Proofs.YtdgdilbbpnlplaaDoor
