/- fold.Fold. -/
import Derived.Test.YtdgdilbbpnlplaaDoorWhere
import Derived.Test.YtdgdilbbpnlplaaDoorCopy
set_option linter.unusedVariables false
set_option linter.unusedSimpArgs false
namespace Go.Proofs.YtdgdilbbpnlplaaDoor
open Go.RowKit Go.Shelf Pr Go.Proofs.YtdgdilbbpnlplaaDoorW.PrintWords Go.Proofs.YtdgdilbbpnlplaaDoorW.PrintLast Go.Proofs.YtdgdilbbpnlplaaDoorW.PrintMore
def markA : S41 := ⟨⟨#[116, 105, 116, 108, 101]⟩, ⟨#[113, 117, 111, 116, 101, 100]⟩⟩
def divN (k : List S32) : S32 := ⟨⟨#[100, 105, 118]⟩, [markA], ⟨#[]⟩, k⟩
def foldL (l : List S32) : List S32 := if (whereL l).2 = true then l.take (whereL l).1.toNat ++ [divN (l.drop (whereL l).1.toNat)] else l
theorem szd_fit {d : Nat} {l : List S32} (h : fit d l = true) : Szd l := by
  refine ⟨Nat.le_trans (fit_len h) (by omega), fun x hx => ?_⟩
  cases d with
  | zero => unfold fit at h; cases l with
    | nil => cases hx
    | cons _ _ => simp at h
  | succ d => exact ((fit_elem h).2 x hx).2.1
theorem firstJ_lo (l : List S32) (j : Nat) (h : j ≤ l.length) : firstJ l j ≤ (l.length : Int) - 1 := (firstJ_le l j h).1
theorem tailN_le (l : List S32) : tailN l ≤ l.length := by
  unfold tailN
  have := (List.takeWhile_sublist tq (l := l.reverse)).length_le
  simpa using this
theorem whereL_lt {l : List S32} (h : (whereL l).2 = true) : ∃ k : Nat, (whereL l).1 = (k : Int) ∧ k < l.length := by
  unfold whereL at h ⊢
  split at h
  · cases h
  · rename_i hn
    have := firstJ_lo l _ (tailN_le l)
    rw [if_neg hn]
    have h0 : ¬ firstJ l (tailN l) < 0 := fun h => hn (.inl h)
    refine ⟨(firstJ l (tailN l)).toNat, ?_, ?_⟩ <;> (try simp only) <;> omega
/-- The cells of a row's elements, one by one, and what they lead to. -/
theorem raw_of_R {A : Option Addr} {c : Nat} {l : List S32} {W : World} {base : Nat} (h : Kd.R k32 32 W base (fun _ => True) (.slice A l.length c) l) :
    ∃ rows : List (List Value), rows.length = l.length ∧ Kd.C (Kd.raw 4) W A l.length rows ∧ ∀ (j : Nat) (x : S32) (cs : List Value), l[j]? = some x → rows[j]? = some cs → k32.M W base (fun k => some k ≠ (Value.slice A l.length c).ownBlock) x cs := by
  obtain ⟨h0, inner, ho, hr⟩ := h
  refine ⟨Kd.chunks 4 l.length inner, Kd.chunks_length _ _ _, ?_, fun j x cs hx hc => ?_⟩
  · have h2 : (Kd.raw 4).R 32 W base (fun _ => True) (.slice A l.length c) (Kd.chunks 4 l.length inner) :=
      ⟨fun _ _ => trivial, inner, by rw [Kd.chunks_length]; exact ho, Kd.reps_raw hr (fun x c hp => ⟨k32.K_len (k32.K_of_M hp), k32.K_one (k32.K_of_M hp)⟩)⟩
    obtain ⟨A', c', e, _, hC⟩ := Kd.R_reads h2
    rw [Kd.chunks_length] at hC
    obtain ⟨ha, hc'⟩ : A = A' ∧ c = c' := by injection e with h1 h2 h3; exact ⟨h1, h3⟩
    subst ha
    exact hC
  · rw [Kd.chunks_get hc]
    exact k32.M_mono (fun k hk => hk.2) (hr.2 j x hx)
/-- A row of such cells. -/
theorem R_of_raw {v : Value} {l : List S32} {rows : List (List Value)} {W : World} {base base' : Nat} {ok : Nat → Prop} (h : (Kd.raw 4).R 32 W base' ok v rows) (hl : rows.length = l.length) (hb : base ≤ base')
    (hm : ∀ (j : Nat) (x : S32) (cs : List Value), l[j]? = some x → rows[j]? = some cs → k32.M W base (fun k => some k ≠ v.ownBlock) x cs) : Kd.R k32 32 W base (fun _ => True) v l := by
  obtain ⟨_, inner, ho, hr⟩ := Kd.R_lower h hb
  refine ⟨fun _ _ => trivial, inner, by rw [← hl]; exact ho, ⟨by rw [← hl]; exact hr.1, fun j x hx => ?_⟩⟩
  have hj : j < rows.length := by rw [hl]; exact (List.getElem?_eq_some_iff.1 hx).1
  have e : (inner.drop (j * 4)).take 4 = rows[j] := (hr.2 j _ (List.getElem?_eq_getElem hj)).1
  show k32.M W base _ x ((inner.drop (j * 4)).take 4)
  rw [e]
  exact k32.M_mono (fun k hk => ⟨trivial, hk⟩) (hm j x _ hx (List.getElem?_eq_getElem hj))
/-- What an element led to before a row was made is not that row. -/
theorem M_old {x : S32} {cs : List Value} {W W' : World} {base : Nat} {ok : Nat → Prop} {v : Value} (h : k32.M W base ok x cs) (hb : Below W.heap.size W W') (hv : ∀ k, v.ownBlock = some k → W.heap.size ≤ k) : k32.M W' base (fun k => some k ≠ v.ownBlock) x cs :=
  k32.M_mono (fun k hk he => by have := hv k he.symm; have := hk.2.2.1; omega) (Kd.M_below (k32.M_bound h) hb)
/-- The fold's own node, made. -/
theorem fold_mid {w W2 Y : World} {A' A21 : Option Addr} {cap c21 bA k : Nat} {l : List S32} {rows : List (List Value)} (h0 : w.heap.size ≤ W2.heap.size)
    (hm : ∀ (j : Nat) (x : S32) (cs : List Value), l[j]? = some x → rows[j]? = some cs → k32.M W2 w.heap.size (fun k => some k ≠ (Value.slice A' l.length cap).ownBlock) x cs) (hl : rows.length = l.length)
    (hb : Below W2.heap.size W2 Y) (hbA : W2.heap.size ≤ bA) (hA : Y.heap[bA]? = some (.cells #[.string ⟨#[116, 105, 116, 108, 101]⟩, .string ⟨#[113, 117, 111, 116, 101, 100]⟩] 41 (0, 0)))
    (hC : (Kd.raw 4).R 32 Y W2.heap.size (fun _ => True) (.slice A21 (l.length - k) c21) (rows.drop k)) (hk : k < l.length) :
    k32.M Y w.heap.size (fun b => b < Y.heap.size) (divN (l.drop k)) [.string ⟨#[100, 105, 118]⟩, .slice (some ⟨bA, 0, none⟩) 1 1, .string ⟨#[]⟩, .slice A21 (l.length - k) c21] := by
  have g1 : Kd.R k41 41 Y w.heap.size (fun _ => True) (.slice (some ⟨bA, 0, none⟩) 1 1) [markA] := by
    refine ⟨fun _ _ => trivial, [.string ⟨#[116, 105, 116, 108, 101]⟩, .string ⟨#[113, 117, 111, 116, 101, 100]⟩], ⟨rfl, .inr ⟨bA, 1, _, rfl, Nat.le_trans h0 hbA, hA, Nat.le_refl _, by decide, rfl, rfl⟩⟩, ⟨rfl, fun j p hj => ?_⟩⟩
    rcases j with _ | j
    · cases hj
      exact k41_mkM Y w.heap.size _ markA
    · simp at hj
  have g3 : Kd.R k32 32 Y w.heap.size (fun _ => True) (.slice A21 (l.length - k) c21) (l.drop k) := by
    refine R_of_raw hC (by rw [List.length_drop, List.length_drop, hl]) h0 (fun j x cs hx hc => ?_)
    rw [List.getElem?_drop] at hx hc
    exact M_old (hm _ x cs hx hc) hb (fun b hb' => Kd.R_base hC b hb')
  have := k32_mkM Y w.heap.size (fun _ => True) (divN (l.drop k)) g1 g3
  exact k32.M_mono (fun b hb => hb.2.2.1) (k32.M_bound this)
set_option maxHeartbeats 4000000 in
set_option maxRecDepth 100000 in
theorem fold_any (A : Option Addr) (c d : Nat) (l : List S32) (w : World) (hr : Kd.C k32 w A l.length l) (hc : l.length ≤ c) (hf : fit d l = true) (hw : FdAt w) :
    Calls Tryd.prog 14 #[.slice A l.length c] w (CopPost w (foldL l)) := by
  have hu32 := Tryd.underlying32
  have hsz := szd_fit hf
  have hlen := fit_len hf
  have HW := Lib.hid hw
  have HCO := Lib.hid (copied_any d A c l w hr hc hf)
  clear hr hw hf
  go_enter Tryd.func14, Tryd.ntmps14
  go_wp2_with fail
  refine HCO.out.mono ?_
  rintro e W1 ⟨v, rfl, hv, hb⟩
  obtain ⟨A', cap, rfl⟩ := Kd.R_slice hv
  obtain ⟨_, hcap, hC⟩ := Kd.R_reads' hv
  have HWH := Lib.hid (where_any A' cap l W1 hC hcap (HW.out.below hb (Nat.le_refl _)) hsz)
  have HV := Lib.hid hv
  have HB1 := Lib.hid hb
  clear hv hb hC HCO
  dsimp only
  go_wp2_with fail
  refine HWH.out.mono ?_
  rintro e W2 ⟨rfl, hb2⟩
  have HB2 : Hid (Below w.heap.size w W2) := Lib.hid (HB1.out.trans (hb2.mono HB1.out.size))
  have HV2 := Lib.hid (Kd.R_below HV.out hb2)
  have HW2 := Lib.hid (HW.out.below HB2.out (Nat.le_refl _))
  clear hb2 HV HWH HB1
  dsimp only
  cases his : (whereL l).2 with
  | false =>
    have HF : Hid (foldL l = l) := Lib.hid (by unfold foldL; rw [his]; rfl)
    generalize (whereL l).1 = f at *
    go_wp2
    go_ret
    exact ⟨_, rfl, by rw [HF.out]; exact HV2.out, HB2.out⟩
  | true =>
    obtain ⟨k, hk, hkl⟩ := whereL_lt his
    have HF : Hid (foldL l = l.take k ++ [divN (l.drop k)]) := Lib.hid (by unfold foldL; rw [his, hk]; rfl)
    rw [hk]
    clear hk his
    have hk0 : (0 : Int) ≤ (k : Int) := by omega
    have hk1 : (k : Int) ≤ (l.length : Int) := by omega
    have hk2 : (k : Int) ≤ (cap : Int) := by omega
    go_wp2_with fail
    have HS2 := Lib.hid (fun (Wc : World) (hb : Below W2.heap.size W2 Wc) => (⟨(hb.cell (World.block_lt_of_cell? _ _ HW2.out.2.1)).trans HW2.out.2.1, (hb.cell (World.block_lt_of_cell? _ _ HW2.out.2.2)).trans HW2.out.2.2⟩ : Wc.cell? ⟨0, 0, none⟩ = some (.string ⟨#[116, 105, 116, 108, 101]⟩) ∧ Wc.cell? ⟨0, 1, none⟩ = some (.string ⟨#[113, 117, 111, 116, 101, 100]⟩)))
    obtain ⟨rows, hrl, hrC, hrM⟩ := raw_of_R HV2.out
    have HRM := Lib.hid hrM
    have HRL := Lib.hid hrl
    have HRC := Lib.hid hrC
    clear hrM hrl hrC
    refine wp_region_held_drew (S := fun W' => W'.cell? ⟨0, 0, none⟩ = some (.string ⟨#[116, 105, 116, 108, 101]⟩) ∧ W'.cell? ⟨0, 1, none⟩ = some (.string ⟨#[113, 117, 111, 116, 101, 100]⟩)) (by kernel_rfl) (HS2.out _ (Below.refl _ _).drew) (fun hHeld => ?_)
    refine take_h (i := 0) (N := some 16) (v := ?_) (a' := ?_) rfl rfl (by kernel_rfl) (by kernel_rfl) (by kernel_rfl) (fun _ _ _ h => h) (Or.inl ⟨by rfl, ?_⟩) (by with_reducible assumption) ?_ ?_
    rotate_left 2
    · intro w' hSw
      try dsimp only at hSw
      go_simp
      try with_reducible rfl
    · simp only [Act.put, List.setIfInBounds_toArray, List.set_cons_zero, List.set_cons_succ]
      rfl
    refine take_h (i := 2) (N := some 18) (v := ?_) (a' := ?_) rfl rfl (by kernel_rfl) (by kernel_rfl) (by kernel_rfl) (fun _ _ _ h => h) (Or.inl ⟨by rfl, ?_⟩) (by with_reducible assumption) ?_ ?_
    rotate_left 2
    · intro w' hSw
      try dsimp only at hSw
      go_simp
      try with_reducible rfl
    · simp only [Act.put, List.setIfInBounds_toArray, List.set_cons_zero, List.set_cons_succ]
      rfl
    refine take_h (i := 3) (N := some 19) (v := ?_) (a' := ?_) rfl rfl (by kernel_rfl) (by kernel_rfl) (by kernel_rfl) (fun _ _ _ h => h) (Or.inl ⟨by rfl, ?_⟩) (by with_reducible assumption) ?_ ?_
    rotate_left 2
    · intro w' hSw
      try dsimp only at hSw
      go_simp
      try with_reducible rfl
    · simp only [Act.put, List.setIfInBounds_toArray, List.set_cons_zero, List.set_cons_succ]
      rfl
    refine take_h (i := 4) (N := some 20) (v := ?_) (a' := ?_) rfl rfl (by kernel_rfl) (by kernel_rfl) (by kernel_rfl) (fun _ _ _ h => h) (Or.inl ⟨by rfl, ?_⟩) (by with_reducible assumption) ?_ ?_
    rotate_left 2
    · intro w' hSw
      try dsimp only at hSw
      go_simp
      try with_reducible rfl
    · simp only [Act.put, List.setIfInBounds_toArray, List.set_cons_zero, List.set_cons_succ]
      rfl
    -- REGION5
    rename_i K5 hK5
    have TAIL : ∀ (Y : World) (b5 bA c21 : Nat) (A21 : Option Addr) (t20 : Value), Below W2.heap.size W2 Y → W2.heap.size ≤ b5 → Y.heap[b5]? = some (.cells #[.string ⟨#[100, 105, 118]⟩, .slice (some ⟨bA, 0, none⟩) 1 1, .string ⟨#[]⟩, .slice A21 (l.length - k) c21] 32 (0, 0)) → k32.M Y w.heap.size (fun b => b < Y.heap.size) (divN (l.drop k)) [.string ⟨#[100, 105, 118]⟩, .slice (some ⟨bA, 0, none⟩) 1 1, .string ⟨#[]⟩, .slice A21 (l.length - k) c21] → K5 { tmps := #[.slice A' l.length cap, undef, .slice none 0 0, .int .i64 k, .bool true, .pointer (some ⟨b5, 0, none⟩), .slice A l.length c, .slice A' l.length cap, .tuple #[.int .i64 k, .bool true], .slice A' l.length cap, .tuple #[.int .i64 k, .bool true], .int .i64 k, .bool true, .bool true, .bool false, undef, .agg #[.string ⟨#[116, 105, 116, 108, 101]⟩, .string ⟨#[113, 117, 111, 116, 101, 100]⟩], .slice (some ⟨bA, 0, none⟩) 1 1, .slice A' l.length cap, .int .i64 k, t20, .slice A21 (l.length - k) c21, .agg #[.string ⟨#[100, 105, 118]⟩, .slice (some ⟨bA, 0, none⟩) 1 1, .string ⟨#[]⟩, .slice A21 (l.length - k) c21], undef, undef, undef, undef, undef, undef, undef], defers := [] } Y := by
      intro Y b5 bA c21 A21 t20 hBY hb5 h5Y hM
      have HBY := Lib.hid hBY
      have H5Y := Lib.hid h5Y
      clear hBY h5Y
      refine hK5 _ _ ?_
      have HM := Lib.hid hM
      have h50 := (blk_cell H5Y.out 0).trans rfl
      have h51 := (blk_cell H5Y.out 1).trans rfl
      have h52 := (blk_cell H5Y.out 2).trans rfl
      have h53 := (blk_cell H5Y.out 3).trans rfl
      have HS6 := Lib.hid (fun (Wc : World) (hb : Below Y.heap.size Y Wc) => (⟨(hb.cell (World.block_lt_of_cell? _ _ h50)).trans h50, (hb.cell (World.block_lt_of_cell? _ _ h51)).trans h51, (hb.cell (World.block_lt_of_cell? _ _ h52)).trans h52, (hb.cell (World.block_lt_of_cell? _ _ h53)).trans h53⟩ : Wc.cell? ⟨b5, 0, none⟩ = some (.string ⟨#[100, 105, 118]⟩ : Value) ∧ Wc.cell? ⟨b5, 1, none⟩ = some (.slice (some ⟨bA, 0, none⟩) 1 1 : Value) ∧ Wc.cell? ⟨b5, 2, none⟩ = some (.string ⟨#[]⟩ : Value) ∧ Wc.cell? ⟨b5, 3, none⟩ = some (.slice A21 (l.length - k) c21 : Value)))
      have HDT : Hid ((rows.take k).length = k) := Lib.hid (by rw [List.length_take, HRL.out]; omega)
      have HCL6 := Lib.hid (fun (Wc : World) (hb : Below Y.heap.size Y Wc) => cloneN_any A' cap (rows.take k).length (rows.take k) Wc (Kd.C_below (Kd.C_take (by rw [HRL.out]; exact HRC.out) (by rw [HRL.out]; omega)) (HBY.out.trans (hb.mono HBY.out.size))) (by rw [HDT.out]; omega))
      rw [HDT.out] at HCL6
      clear hM h50 h51 h52 h53
      go_wp2_with fail
      refine wp_region_held_drew (S := fun W' => W'.cell? ⟨b5, 0, none⟩ = some (.string ⟨#[100, 105, 118]⟩ : Value) ∧ W'.cell? ⟨b5, 1, none⟩ = some (.slice (some ⟨bA, 0, none⟩) 1 1 : Value) ∧ W'.cell? ⟨b5, 2, none⟩ = some (.string ⟨#[]⟩ : Value) ∧ W'.cell? ⟨b5, 3, none⟩ = some (.slice A21 (l.length - k) c21 : Value)) (by kernel_rfl) (HS6.out _ (Below.refl _ _).drew) (fun hHeld => ?_)
      refine take_h (i := 0) (N := some 23) (v := ?_) (a' := ?_) rfl rfl (by kernel_rfl) (by kernel_rfl) (by kernel_rfl) (fun _ _ _ h => h) (Or.inl ⟨by rfl, ?_⟩) (by with_reducible assumption) ?_ ?_
      rotate_left 2
      · intro w' hSw
        try dsimp only at hSw
        go_simp
        try with_reducible rfl
      · simp only [Act.put, List.setIfInBounds_toArray, List.set_cons_zero, List.set_cons_succ]
        rfl
      refine take_h (i := 1) (N := some 24) (v := ?_) (a' := ?_) rfl rfl (by kernel_rfl) (by kernel_rfl) (by kernel_rfl) (fun _ _ _ h => h) (Or.inl ⟨by rfl, ?_⟩) (by with_reducible assumption) ?_ ?_
      rotate_left 2
      · intro w' hSw
        try dsimp only at hSw
        go_simp
        try with_reducible rfl
      · simp only [Act.put, List.setIfInBounds_toArray, List.set_cons_zero, List.set_cons_succ]
        rfl
      refine take_h (i := 2) (N := some 25) (v := ?_) (a' := ?_) rfl rfl (by kernel_rfl) (by kernel_rfl) (by kernel_rfl) (fun _ _ _ h => h) (Or.inl ⟨by rfl, ?_⟩) (by with_reducible assumption) ?_ ?_
      rotate_left 2
      · intro w' hSw
        try dsimp only at hSw
        go_simp
        try with_reducible rfl
      · simp only [Act.put, List.setIfInBounds_toArray, List.set_cons_zero, List.set_cons_succ]
        rfl
      refine take_h (i := 4) (N := some 27) (v := ?_) (a' := ?_) rfl rfl (by kernel_rfl) (by kernel_rfl) (by kernel_rfl) (fun _ _ _ h => h) (Or.inl ⟨by rfl, ?_⟩) (by with_reducible assumption) ?_ ?_
      rotate_left 2
      · intro w' hSw
        try dsimp only at hSw
        go_simp
        try with_reducible rfl
      · simp only [Act.put, List.setIfInBounds_toArray, List.set_cons_zero, List.set_cons_succ]
        rfl
      have HBd : Hid (Below Y.heap.size Y Y.drew) := Lib.hid (Below.refl _ _).drew
      generalize hY0 : Y.drew = Y0 at HBd hHeld ⊢
      clear hY0
      refine wpAnyH_ready (rs := [3, 5]) (by kernel_rfl) (by simp) (AllReadyH.cons rfl (fun K hK => ?_) (AllReadyH.cons rfl (fun K hK => ?_) AllReadyH.nil))
      · go_simp
        refine (HCL6.out Y0 HBd.out).mono ?_
        rintro e Y1 ⟨v26, rfl, hv, hb⟩
        obtain ⟨A26, c26, rfl⟩ := Kd.R_slice hv
        rw [HDT.out] at hv ⊢
        have HBn : Hid (Below Y.heap.size Y Y1) := Lib.hid (HBd.out.trans (hb.mono HBd.out.size))
        have HCw := Lib.hid (Kd.R_lower hv HBd.out.size)
        clear hv hb HBd
        have HBd := HBn
        clear HBn
        dsimp only
        refine hK.out _ _ (HS6.out _ HBd.out) (fun hHeld => ?_)
        clear hK K
        try simp only [Act.put, List.setIfInBounds_toArray, List.set_cons_zero, List.set_cons_succ]
        refine wpAnyH_ready (rs := [5]) (by kernel_rfl) (by simp) (AllReadyH.cons rfl (fun K hK => ?_) AllReadyH.nil)
        go_simp
        have hb : Below Y1.heap.size Y1 (Y1.alloc (.cells #[.string ⟨#[100, 105, 118]⟩, .slice (some ⟨bA, 0, none⟩) 1 1, .string ⟨#[]⟩, .slice A21 (l.length - k) c21] 32)) := (Below.refl _ _).alloc (Nat.le_refl _) _
        have HN := Lib.hid (heap_alloc_new Y1 (.cells #[.string ⟨#[100, 105, 118]⟩, .slice (some ⟨bA, 0, none⟩) 1 1, .string ⟨#[]⟩, .slice A21 (l.length - k) c21] 32))
        have hbL : Y.heap.size ≤ Y1.heap.size := HBd.out.size
        have HBn : Hid (Below Y.heap.size Y (Y1.alloc (.cells #[.string ⟨#[100, 105, 118]⟩, .slice (some ⟨bA, 0, none⟩) 1 1, .string ⟨#[]⟩, .slice A21 (l.length - k) c21] 32))) := Lib.hid (HBd.out.trans (hb.mono hbL))
        refine hK.out _ _ (HS6.out _ HBn.out) (fun hHeld => ?_)
        clear hK K
        try simp only [Act.put, List.setIfInBounds_toArray, List.set_cons_zero, List.set_cons_succ]
        have HCw' := Lib.hid (Kd.R_below HCw.out hb)
        clear HCw
        have HCw := HCw'
        clear HCw'
        clear hb HBd
        have HBd := HBn
        clear HBn
        have HL := HN
        clear HN
        generalize Y1.alloc (.cells #[.string ⟨#[100, 105, 118]⟩, .slice (some ⟨bA, 0, none⟩) 1 1, .string ⟨#[]⟩, .slice A21 (l.length - k) c21] 32) = Y2 at *
        generalize Y1.heap.size = bL at *
        have hHO : Kd.R k32 32 Y2 w.heap.size (fun _ => True) (.slice A26 k c26) (l.take k) := by
          refine R_of_raw HCw.out (by rw [HDT.out, List.length_take]; omega) (Nat.le_trans HB2.out.size HBY.out.size) (fun j x cs hx hc => ?_)
          rw [List.getElem?_take] at hx hc
          by_cases hj : j < k
          · rw [if_pos hj] at hx hc
            exact M_old (HRM.out j x cs hx hc) (HBY.out.trans (HBd.out.mono HBY.out.size)) (fun b hb' => Nat.le_trans HBY.out.size (Kd.R_base HCw.out b hb'))
          · rw [if_neg hj] at hx; cases hx
        have HO := Lib.hid hHO
        have HOB := Lib.hid (fun b hb' => Kd.R_base HCw.out b hb')
        have HMY := Lib.hid (Kd.M_below HM.out HBd.out)
        have HRL1 : Hid (ReadsRow (fun x cs => x = divN (l.drop k) ∧ cs = [.string ⟨#[100, 105, 118]⟩, .slice (some ⟨bA, 0, none⟩) 1 1, .string ⟨#[]⟩, .slice A21 (l.length - k) c21]) k32.sz Y2 (some ⟨bL, 0, none⟩) 1 [divN (l.drop k)]) := Lib.hid (by
          refine ⟨rfl, by omega, fun _ => ⟨_, rfl, fun j p hj => ?_⟩⟩
          rcases j with _ | j
          · cases hj
            refine ⟨_, rfl, ⟨rfl, rfl⟩, fun i u hu => ?_⟩
            have := HL.out
            match i, hu with
            | 0, hu => cases hu; simp [World.cell?, this, Addr.add]
            | 1, hu => cases hu; simp [World.cell?, this, Addr.add]
            | 2, hu => cases hu; simp [World.cell?, this, Addr.add]
            | 3, hu => cases hu; simp [World.cell?, this, Addr.add]
            | (n + 4), hu => simp at hu
          · simp at hj)
        have HBw : Hid (Below w.heap.size w Y2) := Lib.hid (HB2.out.trans ((HBY.out.trans (HBd.out.mono HBY.out.size)).mono HB2.out.size))
        clear hHO HCw HL
        refine wpAnyH_ready (rs := [6]) (by kernel_rfl) (by simp) (AllReadyH.cons rfl (fun K hK => ?_) AllReadyH.nil)
        refine Kd.R_append_rows_step k32 (w0 := w) w.heap.size (by rfl) (.tmp 26) (.tmp 28) 22 32 (.agg #[(.string ⟨#[]⟩), (.slice none 0 0), (.string ⟨#[]⟩), (.slice none 0 0)]) 80 rfl Tryd.underlying22 info32'' rfl (by decide) (by decide) (.slice A26 k c26) (l.take k) [divN (l.drop k)] (some ⟨bL, 0, none⟩) 1 1 (fun _ => True) (fun b => b < Y.heap.size) rfl rfl HO.out HRL1.out (fun x cs h => by obtain ⟨rfl, rfl⟩ := h; exact HMY.out) (fun b hb => ⟨trivial, fun he => by have := HOB.out b he.symm; omega⟩) (fun _ _ => trivial) HBw.out HBw.out.size (by rw [List.length_take]; omega) ?_
        intro v29 Z ho hb hg hat
        have HZ := Lib.hid ho
        have HBZ := Lib.hid hb
        have hS := HS6.out Z (HBd.out.grown hg HBd.out.size (fun b he => HOB.out b he))
        clear ho hb hg hat
        refine (show K (Act.put _ (some 29) v29) Z from ?_)
        try simp only [Act.put, List.setIfInBounds_toArray, List.set_cons_zero, List.set_cons_succ]
        refine hK.out _ _ hS (fun hHeld => ?_)
        clear hK K hS
        try simp only [Act.put, List.setIfInBounds_toArray, List.set_cons_zero, List.set_cons_succ]
        refine take_h (i := 7) (N := some 2) (v := ?_) (a' := ?_) rfl rfl (by kernel_rfl) (by kernel_rfl) (by kernel_rfl) (fun _ _ _ h => h) (Or.inl ⟨by rfl, ?_⟩) (by with_reducible assumption) ?_ ?_
        rotate_left 2
        · intro w' hSw
          try dsimp only at hSw
          go_simp
          try with_reducible rfl
        · simp only [Act.put, List.setIfInBounds_toArray, List.set_cons_zero, List.set_cons_succ]
          rfl
        refine wpAnyH_done (by kernel_rfl) ?_ _
        clear hHeld
        go_wp2
        go_ret
        exact ⟨_, rfl, by rw [HF.out]; exact HZ.out, HBZ.out⟩
      · go_simp
        have hb : Below Y0.heap.size Y0 (Y0.alloc (.cells #[.string ⟨#[100, 105, 118]⟩, .slice (some ⟨bA, 0, none⟩) 1 1, .string ⟨#[]⟩, .slice A21 (l.length - k) c21] 32)) := (Below.refl _ _).alloc (Nat.le_refl _) _
        have HN := Lib.hid (heap_alloc_new Y0 (.cells #[.string ⟨#[100, 105, 118]⟩, .slice (some ⟨bA, 0, none⟩) 1 1, .string ⟨#[]⟩, .slice A21 (l.length - k) c21] 32))
        have hbL : Y.heap.size ≤ Y0.heap.size := HBd.out.size
        have HBn : Hid (Below Y.heap.size Y (Y0.alloc (.cells #[.string ⟨#[100, 105, 118]⟩, .slice (some ⟨bA, 0, none⟩) 1 1, .string ⟨#[]⟩, .slice A21 (l.length - k) c21] 32))) := Lib.hid (HBd.out.trans (hb.mono hbL))
        refine hK.out _ _ (HS6.out _ HBn.out) (fun hHeld => ?_)
        clear hK K
        try simp only [Act.put, List.setIfInBounds_toArray, List.set_cons_zero, List.set_cons_succ]
        clear hb HBd
        have HBd := HBn
        clear HBn
        have HL := HN
        clear HN
        generalize Y0.alloc (.cells #[.string ⟨#[100, 105, 118]⟩, .slice (some ⟨bA, 0, none⟩) 1 1, .string ⟨#[]⟩, .slice A21 (l.length - k) c21] 32) = Y1 at *
        generalize Y0.heap.size = bL at *
        refine wpAnyH_ready (rs := [3]) (by kernel_rfl) (by simp) (AllReadyH.cons rfl (fun K hK => ?_) AllReadyH.nil)
        go_simp
        refine (HCL6.out Y1 HBd.out).mono ?_
        rintro e Y2 ⟨v26, rfl, hv, hb⟩
        obtain ⟨A26, c26, rfl⟩ := Kd.R_slice hv
        rw [HDT.out] at hv ⊢
        have HBn : Hid (Below Y.heap.size Y Y2) := Lib.hid (HBd.out.trans (hb.mono HBd.out.size))
        have HL' := Lib.hid ((hb.block bL (Array.getElem?_eq_some_iff.1 HL.out).1).trans HL.out)
        clear HL
        have HL := HL'
        clear HL'
        have HCw := Lib.hid (Kd.R_lower hv HBd.out.size)
        clear hv hb HBd
        have HBd := HBn
        clear HBn
        dsimp only
        refine hK.out _ _ (HS6.out _ HBd.out) (fun hHeld => ?_)
        clear hK K
        try simp only [Act.put, List.setIfInBounds_toArray, List.set_cons_zero, List.set_cons_succ]
        have hHO : Kd.R k32 32 Y2 w.heap.size (fun _ => True) (.slice A26 k c26) (l.take k) := by
          refine R_of_raw HCw.out (by rw [HDT.out, List.length_take]; omega) (Nat.le_trans HB2.out.size HBY.out.size) (fun j x cs hx hc => ?_)
          rw [List.getElem?_take] at hx hc
          by_cases hj : j < k
          · rw [if_pos hj] at hx hc
            exact M_old (HRM.out j x cs hx hc) (HBY.out.trans (HBd.out.mono HBY.out.size)) (fun b hb' => Nat.le_trans HBY.out.size (Kd.R_base HCw.out b hb'))
          · rw [if_neg hj] at hx; cases hx
        have HO := Lib.hid hHO
        have HOB := Lib.hid (fun b hb' => Kd.R_base HCw.out b hb')
        have HMY := Lib.hid (Kd.M_below HM.out HBd.out)
        have HRL1 : Hid (ReadsRow (fun x cs => x = divN (l.drop k) ∧ cs = [.string ⟨#[100, 105, 118]⟩, .slice (some ⟨bA, 0, none⟩) 1 1, .string ⟨#[]⟩, .slice A21 (l.length - k) c21]) k32.sz Y2 (some ⟨bL, 0, none⟩) 1 [divN (l.drop k)]) := Lib.hid (by
          refine ⟨rfl, by omega, fun _ => ⟨_, rfl, fun j p hj => ?_⟩⟩
          rcases j with _ | j
          · cases hj
            refine ⟨_, rfl, ⟨rfl, rfl⟩, fun i u hu => ?_⟩
            have := HL.out
            match i, hu with
            | 0, hu => cases hu; simp [World.cell?, this, Addr.add]
            | 1, hu => cases hu; simp [World.cell?, this, Addr.add]
            | 2, hu => cases hu; simp [World.cell?, this, Addr.add]
            | 3, hu => cases hu; simp [World.cell?, this, Addr.add]
            | (n + 4), hu => simp at hu
          · simp at hj)
        have HBw : Hid (Below w.heap.size w Y2) := Lib.hid (HB2.out.trans ((HBY.out.trans (HBd.out.mono HBY.out.size)).mono HB2.out.size))
        clear hHO HCw HL
        refine wpAnyH_ready (rs := [6]) (by kernel_rfl) (by simp) (AllReadyH.cons rfl (fun K hK => ?_) AllReadyH.nil)
        refine Kd.R_append_rows_step k32 (w0 := w) w.heap.size (by rfl) (.tmp 26) (.tmp 28) 22 32 (.agg #[(.string ⟨#[]⟩), (.slice none 0 0), (.string ⟨#[]⟩), (.slice none 0 0)]) 80 rfl Tryd.underlying22 info32'' rfl (by decide) (by decide) (.slice A26 k c26) (l.take k) [divN (l.drop k)] (some ⟨bL, 0, none⟩) 1 1 (fun _ => True) (fun b => b < Y.heap.size) rfl rfl HO.out HRL1.out (fun x cs h => by obtain ⟨rfl, rfl⟩ := h; exact HMY.out) (fun b hb => ⟨trivial, fun he => by have := HOB.out b he.symm; omega⟩) (fun _ _ => trivial) HBw.out HBw.out.size (by rw [List.length_take]; omega) ?_
        intro v29 Z ho hb hg hat
        have HZ := Lib.hid ho
        have HBZ := Lib.hid hb
        have hS := HS6.out Z (HBd.out.grown hg HBd.out.size (fun b he => HOB.out b he))
        clear ho hb hg hat
        refine (show K (Act.put _ (some 29) v29) Z from ?_)
        try simp only [Act.put, List.setIfInBounds_toArray, List.set_cons_zero, List.set_cons_succ]
        refine hK.out _ _ hS (fun hHeld => ?_)
        clear hK K hS
        try simp only [Act.put, List.setIfInBounds_toArray, List.set_cons_zero, List.set_cons_succ]
        refine take_h (i := 7) (N := some 2) (v := ?_) (a' := ?_) rfl rfl (by kernel_rfl) (by kernel_rfl) (by kernel_rfl) (fun _ _ _ h => h) (Or.inl ⟨by rfl, ?_⟩) (by with_reducible assumption) ?_ ?_
        rotate_left 2
        · intro w' hSw
          try dsimp only at hSw
          go_simp
          try with_reducible rfl
        · simp only [Act.put, List.setIfInBounds_toArray, List.set_cons_zero, List.set_cons_succ]
          rfl
        refine wpAnyH_done (by kernel_rfl) ?_ _
        clear hHeld
        go_wp2
        go_ret
        exact ⟨_, rfl, by rw [HF.out]; exact HZ.out, HBZ.out⟩
    have HDL : Hid ((rows.drop k).length = l.length - k) := Lib.hid (by rw [List.length_drop, HRL.out])
    have HCL := Lib.hid (fun (Wc : World) (hb : Below W2.heap.size W2 Wc) => cloneN_any (if cap = k then A' else Option.map (fun x => x.add (k * 4)) A') (cap - k) (rows.drop k).length (rows.drop k) Wc (Kd.C_below (Kd.C_drop (c := cap) (by rw [HRL.out]; exact HRC.out) (by rw [HRL.out]; omega) (by rw [HRL.out]; exact hcap)) hb) (by rw [HDL.out]; omega))
    rw [HDL.out] at HCL
    have HBc : Hid (Below W2.heap.size W2 W2.drew) := Lib.hid (Below.refl _ _).drew
    generalize hX0 : W2.drew = X0 at HBc hHeld ⊢
    clear hX0
    refine wpAnyH_ready (rs := [1, 5, 7]) (by kernel_rfl) (by simp) (AllReadyH.cons rfl (fun K hK => ?_) (AllReadyH.cons rfl (fun K hK => ?_) (AllReadyH.cons rfl (fun K hK => ?_) AllReadyH.nil)))
    · go_simp
      have hb : Below X0.heap.size X0 (X0.alloc (.cells #[.string ⟨#[116, 105, 116, 108, 101]⟩, .string ⟨#[113, 117, 111, 116, 101, 100]⟩] 41)) := (Below.refl _ _).alloc (Nat.le_refl _) _
      have HN := Lib.hid (heap_alloc_new X0 (.cells #[.string ⟨#[116, 105, 116, 108, 101]⟩, .string ⟨#[113, 117, 111, 116, 101, 100]⟩] 41))
      have hbA : W2.heap.size ≤ X0.heap.size := HBc.out.size
      have HBn : Hid (Below W2.heap.size W2 (X0.alloc (.cells #[.string ⟨#[116, 105, 116, 108, 101]⟩, .string ⟨#[113, 117, 111, 116, 101, 100]⟩] 41))) := Lib.hid (HBc.out.trans (hb.mono hbA))
      refine hK.out _ _ (HS2.out _ HBn.out) (fun hHeld => ?_)
      clear hK K
      try simp only [Act.put, List.setIfInBounds_toArray, List.set_cons_zero, List.set_cons_succ]
      clear hb HBc
      have HBc := HBn
      clear HBn
      have HA := HN
      clear HN
      generalize X0.alloc (.cells #[.string ⟨#[116, 105, 116, 108, 101]⟩, .string ⟨#[113, 117, 111, 116, 101, 100]⟩] 41) = X1 at *
      generalize X0.heap.size = bA at *
      refine wpAnyH_ready (rs := [5, 7]) (by kernel_rfl) (by simp) (AllReadyH.cons rfl (fun K hK => ?_) (AllReadyH.cons rfl (fun K hK => ?_) AllReadyH.nil))
      · go_simp
        refine (HCL.out X1 HBc.out).mono ?_
        rintro e X2 ⟨v21, rfl, hv, hb⟩
        obtain ⟨A21, c21, rfl⟩ := Kd.R_slice hv
        rw [HDL.out] at hv ⊢
        have HBn : Hid (Below W2.heap.size W2 X2) := Lib.hid (HBc.out.trans (hb.mono HBc.out.size))
        have HA' := Lib.hid ((hb.block bA (Array.getElem?_eq_some_iff.1 HA.out).1).trans HA.out)
        clear HA
        have HA := HA'
        clear HA'
        have HCv := Lib.hid (Kd.R_lower hv HBc.out.size)
        clear hv hb HBc
        have HBc := HBn
        clear HBn
        dsimp only
        refine hK.out _ _ (HS2.out _ HBc.out) (fun hHeld => ?_)
        clear hK K
        try simp only [Act.put, List.setIfInBounds_toArray, List.set_cons_zero, List.set_cons_succ]
        refine take_h (i := 6) (N := some 22) (v := ?_) (a' := ?_) rfl rfl (by kernel_rfl) (by kernel_rfl) (by kernel_rfl) (fun _ _ _ h => h) (Or.inl ⟨by rfl, ?_⟩) (by with_reducible assumption) ?_ ?_
        rotate_left 2
        · intro w' hSw
          try dsimp only at hSw
          go_simp
          try with_reducible rfl
        · simp only [Act.put, List.setIfInBounds_toArray, List.set_cons_zero, List.set_cons_succ]
          rfl
        refine wpAnyH_ready (rs := [7]) (by kernel_rfl) (by simp) (AllReadyH.cons rfl (fun K hK => ?_) AllReadyH.nil)
        go_simp
        have hb : Below X2.heap.size X2 (X2.alloc (.cells #[.string ⟨#[]⟩, .slice none 0 0, .string ⟨#[]⟩, .slice none 0 0] 32)) := (Below.refl _ _).alloc (Nat.le_refl _) _
        have HN := Lib.hid (heap_alloc_new X2 (.cells #[.string ⟨#[]⟩, .slice none 0 0, .string ⟨#[]⟩, .slice none 0 0] 32))
        have hb5 : W2.heap.size ≤ X2.heap.size := HBc.out.size
        have HBn : Hid (Below W2.heap.size W2 (X2.alloc (.cells #[.string ⟨#[]⟩, .slice none 0 0, .string ⟨#[]⟩, .slice none 0 0] 32))) := Lib.hid (HBc.out.trans (hb.mono hb5))
        have hne : Hid (some X2.heap.size ≠ (.slice A21 (l.length - k) c21 : Value).ownBlock) := Lib.hid (fun he => by have := Kd.R_lt HCv.out _ he.symm; omega)
        refine hK.out _ _ (HS2.out _ HBn.out) (fun hHeld => ?_)
        clear hK K
        try simp only [Act.put, List.setIfInBounds_toArray, List.set_cons_zero, List.set_cons_succ]
        have HA' := Lib.hid ((hb.block bA (Array.getElem?_eq_some_iff.1 HA.out).1).trans HA.out)
        clear HA
        have HA := HA'
        clear HA'
        have HCv' := Lib.hid (Kd.R_below HCv.out hb)
        clear HCv
        have HCv := HCv'
        clear HCv'
        clear hb HBc
        have HBc := HBn
        clear HBn
        have H5 := HN
        clear HN
        generalize X2.alloc (.cells #[.string ⟨#[]⟩, .slice none 0 0, .string ⟨#[]⟩, .slice none 0 0] 32) = X3 at *
        generalize X2.heap.size = b5 at *
        have hz0 := (blk_cell H5.out 0).trans rfl
        have hz1 := (blk_cell H5.out 1).trans rfl
        have hz2 := (blk_cell H5.out 2).trans rfl
        have hz3 := (blk_cell H5.out 3).trans rfl
        have hy0 := blk_frozen H5.out 0
        have hy1 := blk_frozen H5.out 1
        have hy2 := blk_frozen H5.out 2
        have hy3 := blk_frozen H5.out 3
        refine wpAnyH_ready (rs := [8]) (by kernel_rfl) (by simp) (AllReadyH.cons rfl (fun K hK => ?_) AllReadyH.nil)
        go_simp
        have HBY : Hid (Below W2.heap.size W2 ((((X3.setCell ⟨b5, 0, none⟩ (.string ⟨#[100, 105, 118]⟩ : Value)).setCell ⟨b5, 1, none⟩ (.slice (some ⟨bA, 0, none⟩) 1 1 : Value)).setCell ⟨b5, 2, none⟩ (.string ⟨#[]⟩ : Value)).setCell ⟨b5, 3, none⟩ (.slice A21 (l.length - k) c21 : Value))) := Lib.hid ((((HBc.out.setCell (p := ⟨b5, 0, none⟩) hb5 _).setCell (p := ⟨b5, 1, none⟩) hb5 _).setCell (p := ⟨b5, 2, none⟩) hb5 _).setCell (p := ⟨b5, 3, none⟩) hb5 _)
        refine hK.out _ _ (HS2.out _ HBY.out) (fun _ => ?_)
        clear hK K
        refine wpAnyH_done (by kernel_rfl) ?_ _
        have H5Y := Lib.hid (blk_put (cs := #[(.string ⟨#[100, 105, 118]⟩ : Value), (.slice (some ⟨bA, 0, none⟩) 1 1 : Value), (.string ⟨#[]⟩ : Value), .slice none 0 0]) (blk_put (cs := #[(.string ⟨#[100, 105, 118]⟩ : Value), (.slice (some ⟨bA, 0, none⟩) 1 1 : Value), .string ⟨#[]⟩, .slice none 0 0]) (blk_put (cs := #[(.string ⟨#[100, 105, 118]⟩ : Value), .slice none 0 0, .string ⟨#[]⟩, .slice none 0 0]) (blk_put (cs := #[.string ⟨#[]⟩, .slice none 0 0, .string ⟨#[]⟩, .slice none 0 0]) H5.out 0 (.string ⟨#[100, 105, 118]⟩ : Value) rfl) 1 (.slice (some ⟨bA, 0, none⟩) 1 1 : Value) rfl) 2 (.string ⟨#[]⟩ : Value) rfl) 3 (.slice A21 (l.length - k) c21 : Value) rfl)
        have far : ∀ b, b ≠ b5 → (((((X3.setCell ⟨b5, 0, none⟩ (.string ⟨#[100, 105, 118]⟩ : Value)).setCell ⟨b5, 1, none⟩ (.slice (some ⟨bA, 0, none⟩) 1 1 : Value)).setCell ⟨b5, 2, none⟩ (.string ⟨#[]⟩ : Value)).setCell ⟨b5, 3, none⟩ (.slice A21 (l.length - k) c21 : Value))).heap[b]? = X3.heap[b]? := fun b hb => (Below.heap_setCell _ _ _ _ hb).trans ((Below.heap_setCell _ _ _ _ hb).trans ((Below.heap_setCell _ _ _ _ hb).trans (Below.heap_setCell _ _ _ _ hb)))
        have hAY := Lib.hid ((far bA (fun e => by subst e; rw [H5.out] at HA; cases HA.out)).trans HA.out)
        have HCY := Lib.hid (Kd.R_move (Kd.R_mono (ok' := fun b => some b = (.slice A21 (l.length - k) c21 : Value).ownBlock) (Kd.raw_tight HCv.out) (fun _ h => h)) (fun b hb => far b (fun e => by subst e; exact hne.out hb)))
        have hM := fold_mid HB2.out.size HRM.out HRL.out HBY.out hbA hAY.out (Kd.R_mono HCY.out (fun _ _ => trivial)) hkl
        clear far hz0 hz1 hz2 hz3 hy0 hy1 hy2 hy3
        exact TAIL _ b5 bA c21 A21 _ HBY.out hb5 H5Y.out hM
      · go_simp
        have hb : Below X1.heap.size X1 (X1.alloc (.cells #[.string ⟨#[]⟩, .slice none 0 0, .string ⟨#[]⟩, .slice none 0 0] 32)) := (Below.refl _ _).alloc (Nat.le_refl _) _
        have HN := Lib.hid (heap_alloc_new X1 (.cells #[.string ⟨#[]⟩, .slice none 0 0, .string ⟨#[]⟩, .slice none 0 0] 32))
        have hb5 : W2.heap.size ≤ X1.heap.size := HBc.out.size
        have HBn : Hid (Below W2.heap.size W2 (X1.alloc (.cells #[.string ⟨#[]⟩, .slice none 0 0, .string ⟨#[]⟩, .slice none 0 0] 32))) := Lib.hid (HBc.out.trans (hb.mono hb5))
        refine hK.out _ _ (HS2.out _ HBn.out) (fun hHeld => ?_)
        clear hK K
        try simp only [Act.put, List.setIfInBounds_toArray, List.set_cons_zero, List.set_cons_succ]
        have HA' := Lib.hid ((hb.block bA (Array.getElem?_eq_some_iff.1 HA.out).1).trans HA.out)
        clear HA
        have HA := HA'
        clear HA'
        clear hb HBc
        have HBc := HBn
        clear HBn
        have H5 := HN
        clear HN
        generalize X1.alloc (.cells #[.string ⟨#[]⟩, .slice none 0 0, .string ⟨#[]⟩, .slice none 0 0] 32) = X2 at *
        generalize X1.heap.size = b5 at *
        refine wpAnyH_ready (rs := [5]) (by kernel_rfl) (by simp) (AllReadyH.cons rfl (fun K hK => ?_) AllReadyH.nil)
        go_simp
        refine (HCL.out X2 HBc.out).mono ?_
        rintro e X3 ⟨v21, rfl, hv, hb⟩
        obtain ⟨A21, c21, rfl⟩ := Kd.R_slice hv
        rw [HDL.out] at hv ⊢
        have HBn : Hid (Below W2.heap.size W2 X3) := Lib.hid (HBc.out.trans (hb.mono HBc.out.size))
        have hne : Hid (some b5 ≠ (.slice A21 (l.length - k) c21 : Value).ownBlock) := Lib.hid (fun he => by have h1 := Kd.R_base hv _ he.symm; have h2 := (Array.getElem?_eq_some_iff.1 H5.out).1; omega)
        have HA' := Lib.hid ((hb.block bA (Array.getElem?_eq_some_iff.1 HA.out).1).trans HA.out)
        clear HA
        have HA := HA'
        clear HA'
        have H5' := Lib.hid ((hb.block b5 (Array.getElem?_eq_some_iff.1 H5.out).1).trans H5.out)
        clear H5
        have H5 := H5'
        clear H5'
        have HCv := Lib.hid (Kd.R_lower hv HBc.out.size)
        clear hv hb HBc
        have HBc := HBn
        clear HBn
        dsimp only
        refine hK.out _ _ (HS2.out _ HBc.out) (fun hHeld => ?_)
        clear hK K
        try simp only [Act.put, List.setIfInBounds_toArray, List.set_cons_zero, List.set_cons_succ]
        refine take_h (i := 6) (N := some 22) (v := ?_) (a' := ?_) rfl rfl (by kernel_rfl) (by kernel_rfl) (by kernel_rfl) (fun _ _ _ h => h) (Or.inl ⟨by rfl, ?_⟩) (by with_reducible assumption) ?_ ?_
        rotate_left 2
        · intro w' hSw
          try dsimp only at hSw
          go_simp
          try with_reducible rfl
        · simp only [Act.put, List.setIfInBounds_toArray, List.set_cons_zero, List.set_cons_succ]
          rfl
        have hz0 := (blk_cell H5.out 0).trans rfl
        have hz1 := (blk_cell H5.out 1).trans rfl
        have hz2 := (blk_cell H5.out 2).trans rfl
        have hz3 := (blk_cell H5.out 3).trans rfl
        have hy0 := blk_frozen H5.out 0
        have hy1 := blk_frozen H5.out 1
        have hy2 := blk_frozen H5.out 2
        have hy3 := blk_frozen H5.out 3
        refine wpAnyH_ready (rs := [8]) (by kernel_rfl) (by simp) (AllReadyH.cons rfl (fun K hK => ?_) AllReadyH.nil)
        go_simp
        have HBY : Hid (Below W2.heap.size W2 ((((X3.setCell ⟨b5, 0, none⟩ (.string ⟨#[100, 105, 118]⟩ : Value)).setCell ⟨b5, 1, none⟩ (.slice (some ⟨bA, 0, none⟩) 1 1 : Value)).setCell ⟨b5, 2, none⟩ (.string ⟨#[]⟩ : Value)).setCell ⟨b5, 3, none⟩ (.slice A21 (l.length - k) c21 : Value))) := Lib.hid ((((HBc.out.setCell (p := ⟨b5, 0, none⟩) hb5 _).setCell (p := ⟨b5, 1, none⟩) hb5 _).setCell (p := ⟨b5, 2, none⟩) hb5 _).setCell (p := ⟨b5, 3, none⟩) hb5 _)
        refine hK.out _ _ (HS2.out _ HBY.out) (fun _ => ?_)
        clear hK K
        refine wpAnyH_done (by kernel_rfl) ?_ _
        have H5Y := Lib.hid (blk_put (cs := #[(.string ⟨#[100, 105, 118]⟩ : Value), (.slice (some ⟨bA, 0, none⟩) 1 1 : Value), (.string ⟨#[]⟩ : Value), .slice none 0 0]) (blk_put (cs := #[(.string ⟨#[100, 105, 118]⟩ : Value), (.slice (some ⟨bA, 0, none⟩) 1 1 : Value), .string ⟨#[]⟩, .slice none 0 0]) (blk_put (cs := #[(.string ⟨#[100, 105, 118]⟩ : Value), .slice none 0 0, .string ⟨#[]⟩, .slice none 0 0]) (blk_put (cs := #[.string ⟨#[]⟩, .slice none 0 0, .string ⟨#[]⟩, .slice none 0 0]) H5.out 0 (.string ⟨#[100, 105, 118]⟩ : Value) rfl) 1 (.slice (some ⟨bA, 0, none⟩) 1 1 : Value) rfl) 2 (.string ⟨#[]⟩ : Value) rfl) 3 (.slice A21 (l.length - k) c21 : Value) rfl)
        have far : ∀ b, b ≠ b5 → (((((X3.setCell ⟨b5, 0, none⟩ (.string ⟨#[100, 105, 118]⟩ : Value)).setCell ⟨b5, 1, none⟩ (.slice (some ⟨bA, 0, none⟩) 1 1 : Value)).setCell ⟨b5, 2, none⟩ (.string ⟨#[]⟩ : Value)).setCell ⟨b5, 3, none⟩ (.slice A21 (l.length - k) c21 : Value))).heap[b]? = X3.heap[b]? := fun b hb => (Below.heap_setCell _ _ _ _ hb).trans ((Below.heap_setCell _ _ _ _ hb).trans ((Below.heap_setCell _ _ _ _ hb).trans (Below.heap_setCell _ _ _ _ hb)))
        have hAY := Lib.hid ((far bA (fun e => by subst e; rw [H5.out] at HA; cases HA.out)).trans HA.out)
        have HCY := Lib.hid (Kd.R_move (Kd.R_mono (ok' := fun b => some b = (.slice A21 (l.length - k) c21 : Value).ownBlock) (Kd.raw_tight HCv.out) (fun _ h => h)) (fun b hb => far b (fun e => by subst e; exact hne.out hb)))
        have hM := fold_mid HB2.out.size HRM.out HRL.out HBY.out hbA hAY.out (Kd.R_mono HCY.out (fun _ _ => trivial)) hkl
        clear far hz0 hz1 hz2 hz3 hy0 hy1 hy2 hy3
        exact TAIL _ b5 bA c21 A21 _ HBY.out hb5 H5Y.out hM
    · go_simp
      refine (HCL.out X0 HBc.out).mono ?_
      rintro e X1 ⟨v21, rfl, hv, hb⟩
      obtain ⟨A21, c21, rfl⟩ := Kd.R_slice hv
      rw [HDL.out] at hv ⊢
      have HBn : Hid (Below W2.heap.size W2 X1) := Lib.hid (HBc.out.trans (hb.mono HBc.out.size))
      have HCv := Lib.hid (Kd.R_lower hv HBc.out.size)
      clear hv hb HBc
      have HBc := HBn
      clear HBn
      dsimp only
      refine hK.out _ _ (HS2.out _ HBc.out) (fun hHeld => ?_)
      clear hK K
      try simp only [Act.put, List.setIfInBounds_toArray, List.set_cons_zero, List.set_cons_succ]
      refine wpAnyH_ready (rs := [1, 7]) (by kernel_rfl) (by simp) (AllReadyH.cons rfl (fun K hK => ?_) (AllReadyH.cons rfl (fun K hK => ?_) AllReadyH.nil))
      · go_simp
        have hb : Below X1.heap.size X1 (X1.alloc (.cells #[.string ⟨#[116, 105, 116, 108, 101]⟩, .string ⟨#[113, 117, 111, 116, 101, 100]⟩] 41)) := (Below.refl _ _).alloc (Nat.le_refl _) _
        have HN := Lib.hid (heap_alloc_new X1 (.cells #[.string ⟨#[116, 105, 116, 108, 101]⟩, .string ⟨#[113, 117, 111, 116, 101, 100]⟩] 41))
        have hbA : W2.heap.size ≤ X1.heap.size := HBc.out.size
        have HBn : Hid (Below W2.heap.size W2 (X1.alloc (.cells #[.string ⟨#[116, 105, 116, 108, 101]⟩, .string ⟨#[113, 117, 111, 116, 101, 100]⟩] 41))) := Lib.hid (HBc.out.trans (hb.mono hbA))
        refine hK.out _ _ (HS2.out _ HBn.out) (fun hHeld => ?_)
        clear hK K
        try simp only [Act.put, List.setIfInBounds_toArray, List.set_cons_zero, List.set_cons_succ]
        have HCv' := Lib.hid (Kd.R_below HCv.out hb)
        clear HCv
        have HCv := HCv'
        clear HCv'
        clear hb HBc
        have HBc := HBn
        clear HBn
        have HA := HN
        clear HN
        generalize X1.alloc (.cells #[.string ⟨#[116, 105, 116, 108, 101]⟩, .string ⟨#[113, 117, 111, 116, 101, 100]⟩] 41) = X2 at *
        generalize X1.heap.size = bA at *
        refine take_h (i := 6) (N := some 22) (v := ?_) (a' := ?_) rfl rfl (by kernel_rfl) (by kernel_rfl) (by kernel_rfl) (fun _ _ _ h => h) (Or.inl ⟨by rfl, ?_⟩) (by with_reducible assumption) ?_ ?_
        rotate_left 2
        · intro w' hSw
          try dsimp only at hSw
          go_simp
          try with_reducible rfl
        · simp only [Act.put, List.setIfInBounds_toArray, List.set_cons_zero, List.set_cons_succ]
          rfl
        refine wpAnyH_ready (rs := [7]) (by kernel_rfl) (by simp) (AllReadyH.cons rfl (fun K hK => ?_) AllReadyH.nil)
        go_simp
        have hb : Below X2.heap.size X2 (X2.alloc (.cells #[.string ⟨#[]⟩, .slice none 0 0, .string ⟨#[]⟩, .slice none 0 0] 32)) := (Below.refl _ _).alloc (Nat.le_refl _) _
        have HN := Lib.hid (heap_alloc_new X2 (.cells #[.string ⟨#[]⟩, .slice none 0 0, .string ⟨#[]⟩, .slice none 0 0] 32))
        have hb5 : W2.heap.size ≤ X2.heap.size := HBc.out.size
        have HBn : Hid (Below W2.heap.size W2 (X2.alloc (.cells #[.string ⟨#[]⟩, .slice none 0 0, .string ⟨#[]⟩, .slice none 0 0] 32))) := Lib.hid (HBc.out.trans (hb.mono hb5))
        have hne : Hid (some X2.heap.size ≠ (.slice A21 (l.length - k) c21 : Value).ownBlock) := Lib.hid (fun he => by have := Kd.R_lt HCv.out _ he.symm; omega)
        refine hK.out _ _ (HS2.out _ HBn.out) (fun hHeld => ?_)
        clear hK K
        try simp only [Act.put, List.setIfInBounds_toArray, List.set_cons_zero, List.set_cons_succ]
        have HA' := Lib.hid ((hb.block bA (Array.getElem?_eq_some_iff.1 HA.out).1).trans HA.out)
        clear HA
        have HA := HA'
        clear HA'
        have HCv' := Lib.hid (Kd.R_below HCv.out hb)
        clear HCv
        have HCv := HCv'
        clear HCv'
        clear hb HBc
        have HBc := HBn
        clear HBn
        have H5 := HN
        clear HN
        generalize X2.alloc (.cells #[.string ⟨#[]⟩, .slice none 0 0, .string ⟨#[]⟩, .slice none 0 0] 32) = X3 at *
        generalize X2.heap.size = b5 at *
        have hz0 := (blk_cell H5.out 0).trans rfl
        have hz1 := (blk_cell H5.out 1).trans rfl
        have hz2 := (blk_cell H5.out 2).trans rfl
        have hz3 := (blk_cell H5.out 3).trans rfl
        have hy0 := blk_frozen H5.out 0
        have hy1 := blk_frozen H5.out 1
        have hy2 := blk_frozen H5.out 2
        have hy3 := blk_frozen H5.out 3
        refine wpAnyH_ready (rs := [8]) (by kernel_rfl) (by simp) (AllReadyH.cons rfl (fun K hK => ?_) AllReadyH.nil)
        go_simp
        have HBY : Hid (Below W2.heap.size W2 ((((X3.setCell ⟨b5, 0, none⟩ (.string ⟨#[100, 105, 118]⟩ : Value)).setCell ⟨b5, 1, none⟩ (.slice (some ⟨bA, 0, none⟩) 1 1 : Value)).setCell ⟨b5, 2, none⟩ (.string ⟨#[]⟩ : Value)).setCell ⟨b5, 3, none⟩ (.slice A21 (l.length - k) c21 : Value))) := Lib.hid ((((HBc.out.setCell (p := ⟨b5, 0, none⟩) hb5 _).setCell (p := ⟨b5, 1, none⟩) hb5 _).setCell (p := ⟨b5, 2, none⟩) hb5 _).setCell (p := ⟨b5, 3, none⟩) hb5 _)
        refine hK.out _ _ (HS2.out _ HBY.out) (fun _ => ?_)
        clear hK K
        refine wpAnyH_done (by kernel_rfl) ?_ _
        have H5Y := Lib.hid (blk_put (cs := #[(.string ⟨#[100, 105, 118]⟩ : Value), (.slice (some ⟨bA, 0, none⟩) 1 1 : Value), (.string ⟨#[]⟩ : Value), .slice none 0 0]) (blk_put (cs := #[(.string ⟨#[100, 105, 118]⟩ : Value), (.slice (some ⟨bA, 0, none⟩) 1 1 : Value), .string ⟨#[]⟩, .slice none 0 0]) (blk_put (cs := #[(.string ⟨#[100, 105, 118]⟩ : Value), .slice none 0 0, .string ⟨#[]⟩, .slice none 0 0]) (blk_put (cs := #[.string ⟨#[]⟩, .slice none 0 0, .string ⟨#[]⟩, .slice none 0 0]) H5.out 0 (.string ⟨#[100, 105, 118]⟩ : Value) rfl) 1 (.slice (some ⟨bA, 0, none⟩) 1 1 : Value) rfl) 2 (.string ⟨#[]⟩ : Value) rfl) 3 (.slice A21 (l.length - k) c21 : Value) rfl)
        have far : ∀ b, b ≠ b5 → (((((X3.setCell ⟨b5, 0, none⟩ (.string ⟨#[100, 105, 118]⟩ : Value)).setCell ⟨b5, 1, none⟩ (.slice (some ⟨bA, 0, none⟩) 1 1 : Value)).setCell ⟨b5, 2, none⟩ (.string ⟨#[]⟩ : Value)).setCell ⟨b5, 3, none⟩ (.slice A21 (l.length - k) c21 : Value))).heap[b]? = X3.heap[b]? := fun b hb => (Below.heap_setCell _ _ _ _ hb).trans ((Below.heap_setCell _ _ _ _ hb).trans ((Below.heap_setCell _ _ _ _ hb).trans (Below.heap_setCell _ _ _ _ hb)))
        have hAY := Lib.hid ((far bA (fun e => by subst e; rw [H5.out] at HA; cases HA.out)).trans HA.out)
        have HCY := Lib.hid (Kd.R_move (Kd.R_mono (ok' := fun b => some b = (.slice A21 (l.length - k) c21 : Value).ownBlock) (Kd.raw_tight HCv.out) (fun _ h => h)) (fun b hb => far b (fun e => by subst e; exact hne.out hb)))
        have hM := fold_mid HB2.out.size HRM.out HRL.out HBY.out hbA hAY.out (Kd.R_mono HCY.out (fun _ _ => trivial)) hkl
        clear far hz0 hz1 hz2 hz3 hy0 hy1 hy2 hy3
        exact TAIL _ b5 bA c21 A21 _ HBY.out hb5 H5Y.out hM
      · go_simp
        have hb : Below X1.heap.size X1 (X1.alloc (.cells #[.string ⟨#[]⟩, .slice none 0 0, .string ⟨#[]⟩, .slice none 0 0] 32)) := (Below.refl _ _).alloc (Nat.le_refl _) _
        have HN := Lib.hid (heap_alloc_new X1 (.cells #[.string ⟨#[]⟩, .slice none 0 0, .string ⟨#[]⟩, .slice none 0 0] 32))
        have hb5 : W2.heap.size ≤ X1.heap.size := HBc.out.size
        have HBn : Hid (Below W2.heap.size W2 (X1.alloc (.cells #[.string ⟨#[]⟩, .slice none 0 0, .string ⟨#[]⟩, .slice none 0 0] 32))) := Lib.hid (HBc.out.trans (hb.mono hb5))
        have hne : Hid (some X1.heap.size ≠ (.slice A21 (l.length - k) c21 : Value).ownBlock) := Lib.hid (fun he => by have := Kd.R_lt HCv.out _ he.symm; omega)
        refine hK.out _ _ (HS2.out _ HBn.out) (fun hHeld => ?_)
        clear hK K
        try simp only [Act.put, List.setIfInBounds_toArray, List.set_cons_zero, List.set_cons_succ]
        have HCv' := Lib.hid (Kd.R_below HCv.out hb)
        clear HCv
        have HCv := HCv'
        clear HCv'
        clear hb HBc
        have HBc := HBn
        clear HBn
        have H5 := HN
        clear HN
        generalize X1.alloc (.cells #[.string ⟨#[]⟩, .slice none 0 0, .string ⟨#[]⟩, .slice none 0 0] 32) = X2 at *
        generalize X1.heap.size = b5 at *
        refine wpAnyH_ready (rs := [1]) (by kernel_rfl) (by simp) (AllReadyH.cons rfl (fun K hK => ?_) AllReadyH.nil)
        go_simp
        have hb : Below X2.heap.size X2 (X2.alloc (.cells #[.string ⟨#[116, 105, 116, 108, 101]⟩, .string ⟨#[113, 117, 111, 116, 101, 100]⟩] 41)) := (Below.refl _ _).alloc (Nat.le_refl _) _
        have HN := Lib.hid (heap_alloc_new X2 (.cells #[.string ⟨#[116, 105, 116, 108, 101]⟩, .string ⟨#[113, 117, 111, 116, 101, 100]⟩] 41))
        have hbA : W2.heap.size ≤ X2.heap.size := HBc.out.size
        have HBn : Hid (Below W2.heap.size W2 (X2.alloc (.cells #[.string ⟨#[116, 105, 116, 108, 101]⟩, .string ⟨#[113, 117, 111, 116, 101, 100]⟩] 41))) := Lib.hid (HBc.out.trans (hb.mono hbA))
        refine hK.out _ _ (HS2.out _ HBn.out) (fun hHeld => ?_)
        clear hK K
        try simp only [Act.put, List.setIfInBounds_toArray, List.set_cons_zero, List.set_cons_succ]
        have H5' := Lib.hid ((hb.block b5 (Array.getElem?_eq_some_iff.1 H5.out).1).trans H5.out)
        clear H5
        have H5 := H5'
        clear H5'
        have HCv' := Lib.hid (Kd.R_below HCv.out hb)
        clear HCv
        have HCv := HCv'
        clear HCv'
        clear hb HBc
        have HBc := HBn
        clear HBn
        have HA := HN
        clear HN
        generalize X2.alloc (.cells #[.string ⟨#[116, 105, 116, 108, 101]⟩, .string ⟨#[113, 117, 111, 116, 101, 100]⟩] 41) = X3 at *
        generalize X2.heap.size = bA at *
        refine take_h (i := 6) (N := some 22) (v := ?_) (a' := ?_) rfl rfl (by kernel_rfl) (by kernel_rfl) (by kernel_rfl) (fun _ _ _ h => h) (Or.inl ⟨by rfl, ?_⟩) (by with_reducible assumption) ?_ ?_
        rotate_left 2
        · intro w' hSw
          try dsimp only at hSw
          go_simp
          try with_reducible rfl
        · simp only [Act.put, List.setIfInBounds_toArray, List.set_cons_zero, List.set_cons_succ]
          rfl
        have hz0 := (blk_cell H5.out 0).trans rfl
        have hz1 := (blk_cell H5.out 1).trans rfl
        have hz2 := (blk_cell H5.out 2).trans rfl
        have hz3 := (blk_cell H5.out 3).trans rfl
        have hy0 := blk_frozen H5.out 0
        have hy1 := blk_frozen H5.out 1
        have hy2 := blk_frozen H5.out 2
        have hy3 := blk_frozen H5.out 3
        refine wpAnyH_ready (rs := [8]) (by kernel_rfl) (by simp) (AllReadyH.cons rfl (fun K hK => ?_) AllReadyH.nil)
        go_simp
        have HBY : Hid (Below W2.heap.size W2 ((((X3.setCell ⟨b5, 0, none⟩ (.string ⟨#[100, 105, 118]⟩ : Value)).setCell ⟨b5, 1, none⟩ (.slice (some ⟨bA, 0, none⟩) 1 1 : Value)).setCell ⟨b5, 2, none⟩ (.string ⟨#[]⟩ : Value)).setCell ⟨b5, 3, none⟩ (.slice A21 (l.length - k) c21 : Value))) := Lib.hid ((((HBc.out.setCell (p := ⟨b5, 0, none⟩) hb5 _).setCell (p := ⟨b5, 1, none⟩) hb5 _).setCell (p := ⟨b5, 2, none⟩) hb5 _).setCell (p := ⟨b5, 3, none⟩) hb5 _)
        refine hK.out _ _ (HS2.out _ HBY.out) (fun _ => ?_)
        clear hK K
        refine wpAnyH_done (by kernel_rfl) ?_ _
        have H5Y := Lib.hid (blk_put (cs := #[(.string ⟨#[100, 105, 118]⟩ : Value), (.slice (some ⟨bA, 0, none⟩) 1 1 : Value), (.string ⟨#[]⟩ : Value), .slice none 0 0]) (blk_put (cs := #[(.string ⟨#[100, 105, 118]⟩ : Value), (.slice (some ⟨bA, 0, none⟩) 1 1 : Value), .string ⟨#[]⟩, .slice none 0 0]) (blk_put (cs := #[(.string ⟨#[100, 105, 118]⟩ : Value), .slice none 0 0, .string ⟨#[]⟩, .slice none 0 0]) (blk_put (cs := #[.string ⟨#[]⟩, .slice none 0 0, .string ⟨#[]⟩, .slice none 0 0]) H5.out 0 (.string ⟨#[100, 105, 118]⟩ : Value) rfl) 1 (.slice (some ⟨bA, 0, none⟩) 1 1 : Value) rfl) 2 (.string ⟨#[]⟩ : Value) rfl) 3 (.slice A21 (l.length - k) c21 : Value) rfl)
        have far : ∀ b, b ≠ b5 → (((((X3.setCell ⟨b5, 0, none⟩ (.string ⟨#[100, 105, 118]⟩ : Value)).setCell ⟨b5, 1, none⟩ (.slice (some ⟨bA, 0, none⟩) 1 1 : Value)).setCell ⟨b5, 2, none⟩ (.string ⟨#[]⟩ : Value)).setCell ⟨b5, 3, none⟩ (.slice A21 (l.length - k) c21 : Value))).heap[b]? = X3.heap[b]? := fun b hb => (Below.heap_setCell _ _ _ _ hb).trans ((Below.heap_setCell _ _ _ _ hb).trans ((Below.heap_setCell _ _ _ _ hb).trans (Below.heap_setCell _ _ _ _ hb)))
        have hAY := Lib.hid ((far bA (fun e => by subst e; rw [H5.out] at HA; cases HA.out)).trans HA.out)
        have HCY := Lib.hid (Kd.R_move (Kd.R_mono (ok' := fun b => some b = (.slice A21 (l.length - k) c21 : Value).ownBlock) (Kd.raw_tight HCv.out) (fun _ h => h)) (fun b hb => far b (fun e => by subst e; exact hne.out hb)))
        have hM := fold_mid HB2.out.size HRM.out HRL.out HBY.out hbA hAY.out (Kd.R_mono HCY.out (fun _ _ => trivial)) hkl
        clear far hz0 hz1 hz2 hz3 hy0 hy1 hy2 hy3
        exact TAIL _ b5 bA c21 A21 _ HBY.out hb5 H5Y.out hM
    · go_simp
      have hb : Below X0.heap.size X0 (X0.alloc (.cells #[.string ⟨#[]⟩, .slice none 0 0, .string ⟨#[]⟩, .slice none 0 0] 32)) := (Below.refl _ _).alloc (Nat.le_refl _) _
      have HN := Lib.hid (heap_alloc_new X0 (.cells #[.string ⟨#[]⟩, .slice none 0 0, .string ⟨#[]⟩, .slice none 0 0] 32))
      have hb5 : W2.heap.size ≤ X0.heap.size := HBc.out.size
      have HBn : Hid (Below W2.heap.size W2 (X0.alloc (.cells #[.string ⟨#[]⟩, .slice none 0 0, .string ⟨#[]⟩, .slice none 0 0] 32))) := Lib.hid (HBc.out.trans (hb.mono hb5))
      refine hK.out _ _ (HS2.out _ HBn.out) (fun hHeld => ?_)
      clear hK K
      try simp only [Act.put, List.setIfInBounds_toArray, List.set_cons_zero, List.set_cons_succ]
      clear hb HBc
      have HBc := HBn
      clear HBn
      have H5 := HN
      clear HN
      generalize X0.alloc (.cells #[.string ⟨#[]⟩, .slice none 0 0, .string ⟨#[]⟩, .slice none 0 0] 32) = X1 at *
      generalize X0.heap.size = b5 at *
      refine wpAnyH_ready (rs := [1, 5]) (by kernel_rfl) (by simp) (AllReadyH.cons rfl (fun K hK => ?_) (AllReadyH.cons rfl (fun K hK => ?_) AllReadyH.nil))
      · go_simp
        have hb : Below X1.heap.size X1 (X1.alloc (.cells #[.string ⟨#[116, 105, 116, 108, 101]⟩, .string ⟨#[113, 117, 111, 116, 101, 100]⟩] 41)) := (Below.refl _ _).alloc (Nat.le_refl _) _
        have HN := Lib.hid (heap_alloc_new X1 (.cells #[.string ⟨#[116, 105, 116, 108, 101]⟩, .string ⟨#[113, 117, 111, 116, 101, 100]⟩] 41))
        have hbA : W2.heap.size ≤ X1.heap.size := HBc.out.size
        have HBn : Hid (Below W2.heap.size W2 (X1.alloc (.cells #[.string ⟨#[116, 105, 116, 108, 101]⟩, .string ⟨#[113, 117, 111, 116, 101, 100]⟩] 41))) := Lib.hid (HBc.out.trans (hb.mono hbA))
        refine hK.out _ _ (HS2.out _ HBn.out) (fun hHeld => ?_)
        clear hK K
        try simp only [Act.put, List.setIfInBounds_toArray, List.set_cons_zero, List.set_cons_succ]
        have H5' := Lib.hid ((hb.block b5 (Array.getElem?_eq_some_iff.1 H5.out).1).trans H5.out)
        clear H5
        have H5 := H5'
        clear H5'
        clear hb HBc
        have HBc := HBn
        clear HBn
        have HA := HN
        clear HN
        generalize X1.alloc (.cells #[.string ⟨#[116, 105, 116, 108, 101]⟩, .string ⟨#[113, 117, 111, 116, 101, 100]⟩] 41) = X2 at *
        generalize X1.heap.size = bA at *
        refine wpAnyH_ready (rs := [5]) (by kernel_rfl) (by simp) (AllReadyH.cons rfl (fun K hK => ?_) AllReadyH.nil)
        go_simp
        refine (HCL.out X2 HBc.out).mono ?_
        rintro e X3 ⟨v21, rfl, hv, hb⟩
        obtain ⟨A21, c21, rfl⟩ := Kd.R_slice hv
        rw [HDL.out] at hv ⊢
        have HBn : Hid (Below W2.heap.size W2 X3) := Lib.hid (HBc.out.trans (hb.mono HBc.out.size))
        have hne : Hid (some b5 ≠ (.slice A21 (l.length - k) c21 : Value).ownBlock) := Lib.hid (fun he => by have h1 := Kd.R_base hv _ he.symm; have h2 := (Array.getElem?_eq_some_iff.1 H5.out).1; omega)
        have HA' := Lib.hid ((hb.block bA (Array.getElem?_eq_some_iff.1 HA.out).1).trans HA.out)
        clear HA
        have HA := HA'
        clear HA'
        have H5' := Lib.hid ((hb.block b5 (Array.getElem?_eq_some_iff.1 H5.out).1).trans H5.out)
        clear H5
        have H5 := H5'
        clear H5'
        have HCv := Lib.hid (Kd.R_lower hv HBc.out.size)
        clear hv hb HBc
        have HBc := HBn
        clear HBn
        dsimp only
        refine hK.out _ _ (HS2.out _ HBc.out) (fun hHeld => ?_)
        clear hK K
        try simp only [Act.put, List.setIfInBounds_toArray, List.set_cons_zero, List.set_cons_succ]
        refine take_h (i := 6) (N := some 22) (v := ?_) (a' := ?_) rfl rfl (by kernel_rfl) (by kernel_rfl) (by kernel_rfl) (fun _ _ _ h => h) (Or.inl ⟨by rfl, ?_⟩) (by with_reducible assumption) ?_ ?_
        rotate_left 2
        · intro w' hSw
          try dsimp only at hSw
          go_simp
          try with_reducible rfl
        · simp only [Act.put, List.setIfInBounds_toArray, List.set_cons_zero, List.set_cons_succ]
          rfl
        have hz0 := (blk_cell H5.out 0).trans rfl
        have hz1 := (blk_cell H5.out 1).trans rfl
        have hz2 := (blk_cell H5.out 2).trans rfl
        have hz3 := (blk_cell H5.out 3).trans rfl
        have hy0 := blk_frozen H5.out 0
        have hy1 := blk_frozen H5.out 1
        have hy2 := blk_frozen H5.out 2
        have hy3 := blk_frozen H5.out 3
        refine wpAnyH_ready (rs := [8]) (by kernel_rfl) (by simp) (AllReadyH.cons rfl (fun K hK => ?_) AllReadyH.nil)
        go_simp
        have HBY : Hid (Below W2.heap.size W2 ((((X3.setCell ⟨b5, 0, none⟩ (.string ⟨#[100, 105, 118]⟩ : Value)).setCell ⟨b5, 1, none⟩ (.slice (some ⟨bA, 0, none⟩) 1 1 : Value)).setCell ⟨b5, 2, none⟩ (.string ⟨#[]⟩ : Value)).setCell ⟨b5, 3, none⟩ (.slice A21 (l.length - k) c21 : Value))) := Lib.hid ((((HBc.out.setCell (p := ⟨b5, 0, none⟩) hb5 _).setCell (p := ⟨b5, 1, none⟩) hb5 _).setCell (p := ⟨b5, 2, none⟩) hb5 _).setCell (p := ⟨b5, 3, none⟩) hb5 _)
        refine hK.out _ _ (HS2.out _ HBY.out) (fun _ => ?_)
        clear hK K
        refine wpAnyH_done (by kernel_rfl) ?_ _
        have H5Y := Lib.hid (blk_put (cs := #[(.string ⟨#[100, 105, 118]⟩ : Value), (.slice (some ⟨bA, 0, none⟩) 1 1 : Value), (.string ⟨#[]⟩ : Value), .slice none 0 0]) (blk_put (cs := #[(.string ⟨#[100, 105, 118]⟩ : Value), (.slice (some ⟨bA, 0, none⟩) 1 1 : Value), .string ⟨#[]⟩, .slice none 0 0]) (blk_put (cs := #[(.string ⟨#[100, 105, 118]⟩ : Value), .slice none 0 0, .string ⟨#[]⟩, .slice none 0 0]) (blk_put (cs := #[.string ⟨#[]⟩, .slice none 0 0, .string ⟨#[]⟩, .slice none 0 0]) H5.out 0 (.string ⟨#[100, 105, 118]⟩ : Value) rfl) 1 (.slice (some ⟨bA, 0, none⟩) 1 1 : Value) rfl) 2 (.string ⟨#[]⟩ : Value) rfl) 3 (.slice A21 (l.length - k) c21 : Value) rfl)
        have far : ∀ b, b ≠ b5 → (((((X3.setCell ⟨b5, 0, none⟩ (.string ⟨#[100, 105, 118]⟩ : Value)).setCell ⟨b5, 1, none⟩ (.slice (some ⟨bA, 0, none⟩) 1 1 : Value)).setCell ⟨b5, 2, none⟩ (.string ⟨#[]⟩ : Value)).setCell ⟨b5, 3, none⟩ (.slice A21 (l.length - k) c21 : Value))).heap[b]? = X3.heap[b]? := fun b hb => (Below.heap_setCell _ _ _ _ hb).trans ((Below.heap_setCell _ _ _ _ hb).trans ((Below.heap_setCell _ _ _ _ hb).trans (Below.heap_setCell _ _ _ _ hb)))
        have hAY := Lib.hid ((far bA (fun e => by subst e; rw [H5.out] at HA; cases HA.out)).trans HA.out)
        have HCY := Lib.hid (Kd.R_move (Kd.R_mono (ok' := fun b => some b = (.slice A21 (l.length - k) c21 : Value).ownBlock) (Kd.raw_tight HCv.out) (fun _ h => h)) (fun b hb => far b (fun e => by subst e; exact hne.out hb)))
        have hM := fold_mid HB2.out.size HRM.out HRL.out HBY.out hbA hAY.out (Kd.R_mono HCY.out (fun _ _ => trivial)) hkl
        clear far hz0 hz1 hz2 hz3 hy0 hy1 hy2 hy3
        exact TAIL _ b5 bA c21 A21 _ HBY.out hb5 H5Y.out hM
      · go_simp
        refine (HCL.out X1 HBc.out).mono ?_
        rintro e X2 ⟨v21, rfl, hv, hb⟩
        obtain ⟨A21, c21, rfl⟩ := Kd.R_slice hv
        rw [HDL.out] at hv ⊢
        have HBn : Hid (Below W2.heap.size W2 X2) := Lib.hid (HBc.out.trans (hb.mono HBc.out.size))
        have hne : Hid (some b5 ≠ (.slice A21 (l.length - k) c21 : Value).ownBlock) := Lib.hid (fun he => by have h1 := Kd.R_base hv _ he.symm; have h2 := (Array.getElem?_eq_some_iff.1 H5.out).1; omega)
        have H5' := Lib.hid ((hb.block b5 (Array.getElem?_eq_some_iff.1 H5.out).1).trans H5.out)
        clear H5
        have H5 := H5'
        clear H5'
        have HCv := Lib.hid (Kd.R_lower hv HBc.out.size)
        clear hv hb HBc
        have HBc := HBn
        clear HBn
        dsimp only
        refine hK.out _ _ (HS2.out _ HBc.out) (fun hHeld => ?_)
        clear hK K
        try simp only [Act.put, List.setIfInBounds_toArray, List.set_cons_zero, List.set_cons_succ]
        refine wpAnyH_ready (rs := [1]) (by kernel_rfl) (by simp) (AllReadyH.cons rfl (fun K hK => ?_) AllReadyH.nil)
        go_simp
        have hb : Below X2.heap.size X2 (X2.alloc (.cells #[.string ⟨#[116, 105, 116, 108, 101]⟩, .string ⟨#[113, 117, 111, 116, 101, 100]⟩] 41)) := (Below.refl _ _).alloc (Nat.le_refl _) _
        have HN := Lib.hid (heap_alloc_new X2 (.cells #[.string ⟨#[116, 105, 116, 108, 101]⟩, .string ⟨#[113, 117, 111, 116, 101, 100]⟩] 41))
        have hbA : W2.heap.size ≤ X2.heap.size := HBc.out.size
        have HBn : Hid (Below W2.heap.size W2 (X2.alloc (.cells #[.string ⟨#[116, 105, 116, 108, 101]⟩, .string ⟨#[113, 117, 111, 116, 101, 100]⟩] 41))) := Lib.hid (HBc.out.trans (hb.mono hbA))
        refine hK.out _ _ (HS2.out _ HBn.out) (fun hHeld => ?_)
        clear hK K
        try simp only [Act.put, List.setIfInBounds_toArray, List.set_cons_zero, List.set_cons_succ]
        have H5' := Lib.hid ((hb.block b5 (Array.getElem?_eq_some_iff.1 H5.out).1).trans H5.out)
        clear H5
        have H5 := H5'
        clear H5'
        have HCv' := Lib.hid (Kd.R_below HCv.out hb)
        clear HCv
        have HCv := HCv'
        clear HCv'
        clear hb HBc
        have HBc := HBn
        clear HBn
        have HA := HN
        clear HN
        generalize X2.alloc (.cells #[.string ⟨#[116, 105, 116, 108, 101]⟩, .string ⟨#[113, 117, 111, 116, 101, 100]⟩] 41) = X3 at *
        generalize X2.heap.size = bA at *
        refine take_h (i := 6) (N := some 22) (v := ?_) (a' := ?_) rfl rfl (by kernel_rfl) (by kernel_rfl) (by kernel_rfl) (fun _ _ _ h => h) (Or.inl ⟨by rfl, ?_⟩) (by with_reducible assumption) ?_ ?_
        rotate_left 2
        · intro w' hSw
          try dsimp only at hSw
          go_simp
          try with_reducible rfl
        · simp only [Act.put, List.setIfInBounds_toArray, List.set_cons_zero, List.set_cons_succ]
          rfl
        have hz0 := (blk_cell H5.out 0).trans rfl
        have hz1 := (blk_cell H5.out 1).trans rfl
        have hz2 := (blk_cell H5.out 2).trans rfl
        have hz3 := (blk_cell H5.out 3).trans rfl
        have hy0 := blk_frozen H5.out 0
        have hy1 := blk_frozen H5.out 1
        have hy2 := blk_frozen H5.out 2
        have hy3 := blk_frozen H5.out 3
        refine wpAnyH_ready (rs := [8]) (by kernel_rfl) (by simp) (AllReadyH.cons rfl (fun K hK => ?_) AllReadyH.nil)
        go_simp
        have HBY : Hid (Below W2.heap.size W2 ((((X3.setCell ⟨b5, 0, none⟩ (.string ⟨#[100, 105, 118]⟩ : Value)).setCell ⟨b5, 1, none⟩ (.slice (some ⟨bA, 0, none⟩) 1 1 : Value)).setCell ⟨b5, 2, none⟩ (.string ⟨#[]⟩ : Value)).setCell ⟨b5, 3, none⟩ (.slice A21 (l.length - k) c21 : Value))) := Lib.hid ((((HBc.out.setCell (p := ⟨b5, 0, none⟩) hb5 _).setCell (p := ⟨b5, 1, none⟩) hb5 _).setCell (p := ⟨b5, 2, none⟩) hb5 _).setCell (p := ⟨b5, 3, none⟩) hb5 _)
        refine hK.out _ _ (HS2.out _ HBY.out) (fun _ => ?_)
        clear hK K
        refine wpAnyH_done (by kernel_rfl) ?_ _
        have H5Y := Lib.hid (blk_put (cs := #[(.string ⟨#[100, 105, 118]⟩ : Value), (.slice (some ⟨bA, 0, none⟩) 1 1 : Value), (.string ⟨#[]⟩ : Value), .slice none 0 0]) (blk_put (cs := #[(.string ⟨#[100, 105, 118]⟩ : Value), (.slice (some ⟨bA, 0, none⟩) 1 1 : Value), .string ⟨#[]⟩, .slice none 0 0]) (blk_put (cs := #[(.string ⟨#[100, 105, 118]⟩ : Value), .slice none 0 0, .string ⟨#[]⟩, .slice none 0 0]) (blk_put (cs := #[.string ⟨#[]⟩, .slice none 0 0, .string ⟨#[]⟩, .slice none 0 0]) H5.out 0 (.string ⟨#[100, 105, 118]⟩ : Value) rfl) 1 (.slice (some ⟨bA, 0, none⟩) 1 1 : Value) rfl) 2 (.string ⟨#[]⟩ : Value) rfl) 3 (.slice A21 (l.length - k) c21 : Value) rfl)
        have far : ∀ b, b ≠ b5 → (((((X3.setCell ⟨b5, 0, none⟩ (.string ⟨#[100, 105, 118]⟩ : Value)).setCell ⟨b5, 1, none⟩ (.slice (some ⟨bA, 0, none⟩) 1 1 : Value)).setCell ⟨b5, 2, none⟩ (.string ⟨#[]⟩ : Value)).setCell ⟨b5, 3, none⟩ (.slice A21 (l.length - k) c21 : Value))).heap[b]? = X3.heap[b]? := fun b hb => (Below.heap_setCell _ _ _ _ hb).trans ((Below.heap_setCell _ _ _ _ hb).trans ((Below.heap_setCell _ _ _ _ hb).trans (Below.heap_setCell _ _ _ _ hb)))
        have hAY := Lib.hid ((far bA (fun e => by subst e; rw [H5.out] at HA; cases HA.out)).trans HA.out)
        have HCY := Lib.hid (Kd.R_move (Kd.R_mono (ok' := fun b => some b = (.slice A21 (l.length - k) c21 : Value).ownBlock) (Kd.raw_tight HCv.out) (fun _ h => h)) (fun b hb => far b (fun e => by subst e; exact hne.out hb)))
        have hM := fold_mid HB2.out.size HRM.out HRL.out HBY.out hbA hAY.out (Kd.R_mono HCY.out (fun _ _ => trivial)) hkl
        clear far hz0 hz1 hz2 hz3 hy0 hy1 hy2 hy3
        exact TAIL _ b5 bA c21 A21 _ HBY.out hb5 H5Y.out hM
    -- END5
end Go.Proofs.YtdgdilbbpnlplaaDoor
