/- fold.Where. -/
import Derived.Test.YtdgdilbbpnlplaaDoorBack
set_option linter.unusedVariables false
set_option linter.unusedSimpArgs false
namespace Go.Proofs.YtdgdilbbpnlplaaDoor
open Go.RowKit Go.Shelf Pr Range Go.Proofs.YtdgdilbbpnlplaaDoorW.PrintWords Go.Proofs.YtdgdilbbpnlplaaDoorW.PrintLast Go.Proofs.YtdgdilbbpnlplaaDoorW.PrintMore
attribute [local go_sem] Oper.semAt_some
def quoteB : List UInt8 := [98, 108, 111, 99, 107, 113, 117, 111, 116, 101]
def isQ (x : S32) : Bool := x.f0.toList == quoteB
/-- The first quote among the last j nodes; -1: there is none. -/
def firstJ (l : List S32) : Nat → Int
  | 0 => -1
  | j + 1 => if isQ (l.getD (l.length - 1 - j) z32) then ((l.length - 1 - j : Nat) : Int) else firstJ l j
def tq (x : S32) : Bool := isQ x || isBl x
/-- How many nodes at the end are quotes or blank. -/
def tailN (l : List S32) : Nat := (l.reverse.takeWhile tq).length
def whereL (l : List S32) : Int × Bool :=
  if firstJ l (tailN l) < 0 ∨ (l.take (firstJ l (tailN l)).toNat).any (fun x => !isBl x) = false then (0, false) else (firstJ l (tailN l), true)
def AllT (l : List S32) (j : Nat) : Prop := j ≤ l.length ∧ ∀ i, i < j → tq (l.getD (l.length - 1 - i) z32) = true
theorem rev_get (l : List S32) (i : Nat) (h : i < l.length) : l.reverse[i]? = some (l.getD (l.length - 1 - i) z32) := by
  rw [List.getElem?_reverse h, getD_get (by omega), List.getElem?_eq_getElem (by omega)]
theorem tw_len {α : Type} (p : α → Bool) : ∀ (l : List α) (j : Nat), (∀ i, i < j → ∃ x, l[i]? = some x ∧ p x = true) → (∀ x, l[j]? = some x → p x = false) → (l.takeWhile p).length = j
  | [], 0, _, _ => rfl
  | [], j + 1, h, _ => by obtain ⟨x, hx, _⟩ := h 0 (by omega); simp at hx
  | a :: l, 0, _, h => by
    have := h a rfl
    rw [List.takeWhile_cons, if_neg (by rw [this]; simp)]; rfl
  | a :: l, j + 1, h1, h2 => by
    obtain ⟨x, hx, hp⟩ := h1 0 (by omega)
    simp at hx; subst hx
    rw [List.takeWhile_cons, if_pos hp, List.length_cons, tw_len p l j (fun i hi => h1 (i + 1) (by omega)) h2]
theorem tail_all {l : List S32} (h : AllT l l.length) : tailN l = l.length :=
  tw_len tq l.reverse l.length (fun i hi => ⟨_, rev_get l i hi, h.2 i hi⟩) (fun x hx => by
    have := (List.getElem?_eq_some_iff.1 hx).1
    simp at this)
theorem tail_stop {l : List S32} {j : Nat} (h : AllT l j) (hj : j < l.length) (hn : tq (l.getD (l.length - 1 - j) z32) = false) : tailN l = j :=
  tw_len tq l.reverse j (fun i hi => ⟨_, rev_get l i (by omega), h.2 i hi⟩) (fun x hx => by
    rw [rev_get l j hj] at hx; cases hx; exact hn)
theorem firstJ_le (l : List S32) : ∀ j, j ≤ l.length → firstJ l j ≤ (l.length : Int) - 1 ∧ -1 ≤ firstJ l j
  | 0, h => by unfold firstJ; omega
  | j + 1, h => by
    have := firstJ_le l j (by omega)
    unfold firstJ
    split <;> omega
theorem firstJ_lt (l : List S32) : ∀ j, j ≤ l.length → firstJ l j < (l.length : Int) := fun j h => by have := firstJ_le l j h; omega
/-- What holds between two rounds. -/
structure WIv (w : World) (l : List S32) (j : Nat) (W : World) : Prop where
  all : AllT l j
  fb : Boxed W w.heap.size 3 (.int .i64 (firstJ l j))
  low : Below w.heap.size w W
  size : w.heap.size + 2 ≤ W.heap.size
theorem WIv.grown {w : World} {l : List S32} {j : Nat} {A B : World} {row : Option Nat} (h : WIv w l j A) (hg : A.grownBy B row) (hr : ∀ r, row = some r → w.heap.size < r) : WIv w l j B :=
  ⟨h.all, h.fb.kept hg (fun e => by have := hr _ e.symm; omega), h.low.grown hg (Nat.le_trans (by omega) h.size) (fun k e => by have := hr k e; omega), Nat.le_trans h.size hg.size⟩
theorem keeps_below {W W' : World} (h : Below W.heap.size W W') : KeepsOthers W W' := ⟨h.size, fun k o hk _ => (h.block k (Array.getElem?_eq_some_iff.1 hk).1).trans hk⟩
theorem leaves_below {W W' : World} {X : Nat} (h : Below W.heap.size W W') (hX : X < W.heap.size) : Range.Leaves X W W' := ⟨h.block X hX, h.size⟩
theorem WIv.below {w : World} {l : List S32} {j : Nat} {A B : World} (h : WIv w l j A) (hb : Below A.heap.size A B) : WIv w l j B :=
  ⟨h.all, (hb.block _ h.fb.lt).trans h.fb, h.low.trans (hb.mono (Nat.le_trans (by omega) h.size)), Nat.le_trans h.size hb.size⟩
def WI (w : World) (l : List S32) (pre : List Bk) (W : World) : Prop := WIv w l pre.length W
def WX (w : World) (l : List S32) (c : Code) (pre : List Bk) (W : World) : Prop := c = .exit 0 ∧ ∃ j, j < l.length ∧ tq (l.getD (l.length - 1 - j) z32) = false ∧ WIv w l j W
set_option maxRecDepth 100000 in
set_option maxHeartbeats 4000000 in
theorem where_in (A : Option Addr) (c : Nat) (l : List S32) (w : World) (hr : Kd.C k32 w A l.length l) (hc : l.length ≤ c) (hw : FdAt w) (hs : Szd l) :
    CallsIn Fence.wide 6 Tryd.prog 11 #[.slice A l.length c] w fun e w' => e = .returned (.tuple #[.int .i64 (whereL l).1, .bool (whereL l).2]) ∧ Below w.heap.size w w' := by
  have hu32 := Tryd.underlying32
  have hlen := hs.1
  refine callsIn_of_wp_marks Tryd.func11 rfl trivial ?_ rfl
  simp only [Tryd.ntmps11, List.size_toArray, List.length_cons, List.length_nil, Nat.reduceAdd, Nat.reduceSub, Array.replicate_succ, Array.replicate_zero, List.push_toArray, List.append_toArray, List.nil_append, List.cons_append]
  gi_wp2_with fail
  refine ⟨trivial, (callsIn_wide.2 (back_any A c l.length _)).mono ?_⟩
  rintro e w' ⟨rfl, rfl⟩
  obtain ⟨W0, hW0⟩ : ∃ W0, (w.alloc (.cells #[.int .i64 (-1)] 3)).alloc (.cells #[.slice A l.length c] 22) = W0 := ⟨_, rfl⟩
  have hI0 : WIv w l 0 W0 := by
    subst hW0
    refine ⟨⟨Nat.zero_le _, fun i hi => absurd hi (Nat.not_lt_zero _)⟩, (Boxed.new w 3 (.int .i64 (-1))).alloc _, ((Below.refl _ w).alloc (Nat.le_refl _) _).alloc (by simp) _, by simp⟩
  have bX : Boxed W0 (w.heap.size + 1) 22 (.slice A l.length c) := by
    subst hW0
    have := Boxed.new (w.alloc (.cells #[.int .i64 (-1)] 3)) 22 (.slice A l.length c)
    simpa only [World.size_alloc] using this
  have hsz : W0.heap.size = w.heap.size + 2 := by subst hW0; simp
  simp only [World.size_alloc]
  rw [hW0]
  clear hW0
  have HI0 := Lib.hid hI0
  clear hI0
  gi_wp2_with fail
  have hIO : OwnFrom W0.heap.size (WI w l) := fun pre A B row hI hg hr => hI.grown hg (fun r e => by obtain ⟨h1, h2⟩ := hr r e; omega)
  have hXO : ∀ c, OwnFrom W0.heap.size (WX w l c) := fun c pre A B row hI hg hr => by
    obtain ⟨hc, j, h1, h2, h3⟩ := hI
    exact ⟨hc, j, h1, h2, h3.grown hg (fun r e => by obtain ⟨h1, h2⟩ := hr r e; omega)⟩
  have hIX : Bears (w.heap.size + 1) (WI w l) := fun pre A B row hI hg hr => hI.grown hg (fun r e => by have := hr r e; omega)
  have hXX : ∀ c, Bears (w.heap.size + 1) (WX w l c) := fun c pre A B row hI hg hr => by
    obtain ⟨hc, j, h1, h2, h3⟩ := hI
    exact ⟨hc, j, h1, h2, h3.grown hg (fun r e => by have := hr r e; omega)⟩
  refine range_iter3 rfl (by omega) (gf := 30) (lb := #[.pointer (some ⟨w.heap.size + 1, 0, none⟩)]) rfl trivial (enters_of Tryd.func30 (by kernel_rfl) rfl)
    (back_iter 5 (w.heap.size + 1) (by omega) A c l w hr hlen W0 bX) (by omega) (Below.refl _ _) (fun _ => rfl)
    (WI w l) (WX w l) hIO hXO hIX hXX (fun pre W h => h.low)
    HI0.out
    (fun x a' W => ∃ Bv, w.heap.size + 2 ≤ Bv ∧ W.heap[Bv]? = some (.cells #[.string (l.getD x.1 z32).f0, .slice x.2.1 (l.getD x.1 z32).f1.length x.2.2.1, .string (l.getD x.1 z32).f2, .slice x.2.2.2.1 (l.getD x.1 z32).f3.length x.2.2.2.2] 32 (0, 0)) ∧ a' = { tmps := #[.slice A l.length c, undef, .int .i64 0, .bool false, .pointer (some ⟨w.heap.size, 0, none⟩), .int .i64 x.1, .pointer (some ⟨Bv, 0, none⟩), .slice A l.length c, .func (.func 30) #[] #[.pointer (some ⟨w.heap.size + 1, 0, none⟩)], .int .i64 x.1, nodV (l.getD x.1 z32) x, undef, undef, undef, undef, undef, undef, undef, undef, undef, undef, undef, undef, undef, undef, undef, undef, undef], defers := [] })
    ?hAx ?assign ?body ?done ?stop
  case hAx =>
    rintro x a' _ A B row ⟨Bv, h1, h2, h3⟩ hg hr
    refine ⟨Bv, h1, (hg.block Bv (Array.getElem?_eq_some_iff.1 h2).1 (fun e => ?_)).trans h2, h3⟩
    obtain ⟨_, o, ho, hc⟩ := hr Bv e.symm
    rw [h2] at ho; cases ho; cases hc
  case assign =>
    rintro l' pre ⟨k, A1, c1, A3, c3⟩ W K hi hK
    unfold bkV nodV
    have HI := Lib.hid hi
    have hWs : Hid (w.heap.size + 2 ≤ W.heap.size) := Lib.hid hi.size
    clear hi
    gi_wp2
    refine hK _ _ ((KeepsOthers.alloc W _).from _) ⟨?_, by simp⟩ (hIO.alloc _ HI.out) ⟨W.heap.size, hWs.out, World.alloc_heap_new W _, rfl⟩
    exact Below.heap_alloc W _ _ (by have := hWs.out; omega)
  case body =>
    rintro l' pre ⟨k, A1, c1, A3, c3⟩ a' W hl hr' hi ⟨Bv, hBv, hcv, rfl⟩ hnx
    have hWs := hi.size
    have hBvl := (Array.getElem?_eq_some_iff.1 hcv).1
    have ek : l.length - 1 - pre.length = k := by have : k + 1 + pre.length = l.length := hnx; omega
    have hkn : k < l.length := by have : k + 1 + pre.length = l.length := hnx; omega
    have hpn : pre.length < l.length := by have : k + 1 + pre.length = l.length := hnx; omega
    have hsx := szd_getD hs k
    have hwW := hw.below hi.low (Nat.le_refl _)
    have hFJ : firstJ l (pre.length + 1) = if isQ (l.getD k z32) then (k : Int) else firstJ l pre.length := by rw [firstJ, ek]
    have hAl : ∀ _ : tq (l.getD k z32) = true, AllT l (pre.length + 1) := fun h => ⟨by omega, fun i hi' => by
      by_cases he : i = pre.length
      · subst he; rw [ek]; exact h
      · exact hi.all.2 i (by omega)⟩
    have hST : tq (l.getD k z32) = false → tq (l.getD (l.length - 1 - pre.length) z32) = false := by rw [ek]; exact id
    have HI := Lib.hid hi
    have HAL := Lib.hid hAl
    have HFJ := Lib.hid hFJ
    have HST := Lib.hid hST
    have HCV := Lib.hid hcv
    have HWW := Lib.hid hwW
    have hcb := hi.fb.cell
    have hfb := hi.fb.frozen
    clear hi hAl hFJ hST hcv hwW hIO hXO hIX hXX HI0 hnx ek hr' bX hr hw
    unfold nodV
    obtain ⟨n1, hn1⟩ : ∃ n1, n1 = (l.getD k z32).f1.length := ⟨_, rfl⟩
    obtain ⟨n3, hn3⟩ : ∃ n3, n3 = (l.getD k z32).f3.length := ⟨_, rfl⟩
    have HQ : Hid (tq (l.getD k z32) = (((l.getD k z32).f0.toList == quoteB) || blankB (l.getD k z32).f0 (l.getD k z32).f2)) := Lib.hid rfl
    have HQ1 : Hid (isQ (l.getD k z32) = ((l.getD k z32).f0.toList == quoteB)) := Lib.hid rfl
    simp only
    rw [← hn1, ← hn3] at HCV
    rw [← hn1, ← hn3]
    clear hn1 hn3
    generalize l.getD k z32 = x at *
    have hx0 : W.cell? ⟨Bv, 0, none⟩ = some (.string x.f0) := by simp [World.cell?, HCV.out]
    have hx1 : W.cell? ⟨Bv, 1, none⟩ = some (.slice A1 n1 c1) := by simp [World.cell?, HCV.out]
    have hx2 : W.cell? ⟨Bv, 2, none⟩ = some (.string x.f2) := by simp [World.cell?, HCV.out]
    have hx3 : W.cell? ⟨Bv, 3, none⟩ = some (.slice A3 n3 c3) := by simp [World.cell?, HCV.out]
    cases hq : (x.f0.toList == quoteB) with
    | true =>
      have hq' : (x.f0.toList == [98, 108, 111, 99, 107, 113, 117, 111, 116, 101]) = true := hq
      have HA : Hid (AllT l (pre.length + 1)) := Lib.hid (HAL.out (by rw [HQ.out, hq]; rfl))
      have HF : Hid (firstJ l (pre.length + 1) = (k : Int)) := Lib.hid (by rw [HFJ.out, HQ1.out, hq]; rfl)
      gi_wp2_with fail
      refine ⟨(KeepsOthers.setCell _ _ _).from _, ⟨Below.heap_setCell _ _ _ _ (by simp), by simp⟩, ?_⟩
      show WIv w l (pre ++ [(k, A1, c1, A3, c3)]).length _
      rw [List.length_append, List.length_singleton]
      refine ⟨HA.out, ?_, HI.out.low.setCell (p := ⟨w.heap.size, 0, none⟩) (Nat.le_refl _) _, by simpa using HI.out.size⟩
      rw [HF.out]
      exact HI.out.fb.set _
    | false =>
      have hq' : (x.f0.toList == [98, 108, 111, 99, 107, 113, 117, 111, 116, 101]) = false := hq
      have HF : Hid (firstJ l (pre.length + 1) = firstJ l pre.length) := Lib.hid (by rw [HFJ.out, HQ1.out, hq]; rfl)
      gi_wp2_with fail
      refine ⟨trivial, ((callsIn_wide.2 (isBlank_any x.f0 x.f2 A1 A3 n1 c1 n3 c3 W HWW.out hsx)).inRound l').mono ?_⟩
      rintro e W1 ⟨rfl, hb1⟩
      have HB1 := Lib.hid hb1
      clear hb1
      cases hbl : blankB x.f0 x.f2 with
      | true =>
        have HA : Hid (AllT l (pre.length + 1)) := Lib.hid (HAL.out (by rw [HQ.out, hbl, Bool.or_true]))
        gi_wp2_with fail
        refine ⟨(keeps_below HB1.out).from _, leaves_below HB1.out (by omega), ?_⟩
        show WIv w l (pre ++ [(k, A1, c1, A3, c3)]).length _
        rw [List.length_append, List.length_singleton]
        have := HI.out.below HB1.out
        exact ⟨HA.out, by rw [HF.out]; exact this.fb, this.low, this.size⟩
      | false =>
        have HX : Hid (tq x = false) := Lib.hid (by rw [HQ.out, hq, hbl]; rfl)
        gi_wp2_with fail
        exact ⟨(keeps_below HB1.out).from _, rfl, pre.length, hpn, HST.out HX.out, HI.out.below HB1.out⟩
  case done =>
    rintro D ys W hD hys hi hK
    have hj : ys.length = l.length := hys
    have hT := tail_all (hj ▸ hi.all : AllT l l.length)
    unfold WI at hi
    rw [hj, ← hT] at hi
    have hcf := hi.fb.cell
    have hle := firstJ_le l (tailN l) hi.all.1
    have HWH : Hid (whereL l = if firstJ l (tailN l) < 0 ∨ (l.take (firstJ l (tailN l)).toNat).any (fun x => !isBl x) = false then (0, false) else (firstJ l (tailN l), true)) := Lib.hid rfl
    have HI := Lib.hid hi
    have HK := Lib.hid hK
    clear hi hK hT hIO hXO hIX hXX HI0 hu32
    generalize firstJ l (tailN l) = f at *
    by_cases hf : f < 0
    · have HE : Hid (whereL l = (0, false)) := Lib.hid (by rw [HWH.out, if_pos (.inl hf)])
      have HKK := HK
      have HLL : Hid (Below w.heap.size w W) := Lib.hid HI.out.low
      gi_wp2_with fail
      refine ⟨trivial, ?_⟩
      gi_wp2_with fail
      refine ⟨by simp, .inl ⟨_, _, rfl, run_takeDeferred HKK.out, ?_⟩⟩
      exact ⟨_, results_tmp2 rfl _ _ _, by rw [HE.out]; rfl, HLL.out.grown (grownBy_putObj' _ D _) HLL.out.size (fun k e => by cases e; omega)⟩
    · obtain ⟨k, rfl⟩ : ∃ k : Nat, f = (k : Int) := ⟨f.toNat, by omega⟩
      have hk : k ≤ l.length := by omega
      have hk2 : (k : Int) ≤ (c : Int) := by omega
      have hk0 : (0 : Int) ≤ (k : Int) := by omega
      gi_wp2_with fail
      refine ⟨trivial, (callsIn_wide.2 (contains_any A c k l W (Kd.C_below hr HI.out.low) hk (hw.below HI.out.low (Nat.le_refl _)) hs)).mono ?_⟩
      rintro e W1 ⟨rfl, hb1⟩
      have HKK : Hid (W1.heap[D]? = some (.deferred (some []))) := Lib.hid ((hb1.block D (Array.getElem?_eq_some_iff.1 HK.out).1).trans HK.out)
      have HLL : Hid (Below w.heap.size w W1) := Lib.hid (HI.out.low.trans (hb1.mono HI.out.low.size))
      have hcf1 : W1.cell? ⟨w.heap.size, 0, none⟩ = some (.int .i64 k) := (hb1.cell (World.block_lt_of_cell? _ _ hcf)).trans hcf
      clear hb1 hcf
      rw [Int.toNat_natCast] at HWH
      cases hany : (l.take k).any (fun x => !isBl x) with
      | false =>
        have HE : Hid (whereL l = (0, false)) := Lib.hid (by rw [HWH.out, if_pos (.inr hany)])
        gi_wp2_with fail
        refine ⟨by simp, .inl ⟨_, _, rfl, run_takeDeferred HKK.out, ?_⟩⟩
        exact ⟨_, results_tmp2 rfl _ _ _, by rw [HE.out]; rfl, HLL.out.grown (grownBy_putObj' _ D _) HLL.out.size (fun k e => by cases e; omega)⟩
      | true =>
        have HE : Hid (whereL l = ((k : Int), true)) := Lib.hid (by rw [HWH.out, if_neg (fun h => h.elim (fun h => by omega) (fun h => by rw [hany] at h; cases h))])
        gi_wp2_with fail
        refine ⟨by simp, .inl ⟨_, _, rfl, run_takeDeferred HKK.out, ?_⟩⟩
        exact ⟨_, results_tmp2 rfl _ _ _, by rw [HE.out]; rfl, HLL.out.grown (grownBy_putObj' _ D _) HLL.out.size (fun k e => by cases e; omega)⟩
  case stop =>
    rintro D c' pre W hD hSp ⟨rfl, j, hj, hn, hi⟩ hK
    have hT := tail_stop hi.all hj hn
    rw [← hT] at hi
    have hcf := hi.fb.cell
    have hle := firstJ_le l (tailN l) hi.all.1
    have HWH : Hid (whereL l = if firstJ l (tailN l) < 0 ∨ (l.take (firstJ l (tailN l)).toNat).any (fun x => !isBl x) = false then (0, false) else (firstJ l (tailN l), true)) := Lib.hid rfl
    have HI := Lib.hid hi
    have HK := Lib.hid hK
    clear hi hK hT hIO hXO hIX hXX HI0 hu32
    generalize firstJ l (tailN l) = f at *
    by_cases hf : f < 0
    · have HE : Hid (whereL l = (0, false)) := Lib.hid (by rw [HWH.out, if_pos (.inl hf)])
      have HKK := HK
      have HLL : Hid (Below w.heap.size w W) := Lib.hid HI.out.low
      gi_wp2_with fail
      refine ⟨trivial, ?_⟩
      gi_wp2_with fail
      refine ⟨by simp, .inl ⟨_, _, rfl, run_takeDeferred HKK.out, ?_⟩⟩
      exact ⟨_, results_tmp2 rfl _ _ _, by rw [HE.out]; rfl, HLL.out.grown (grownBy_putObj' _ D _) HLL.out.size (fun k e => by cases e; omega)⟩
    · obtain ⟨k, rfl⟩ : ∃ k : Nat, f = (k : Int) := ⟨f.toNat, by omega⟩
      have hk : k ≤ l.length := by omega
      have hk2 : (k : Int) ≤ (c : Int) := by omega
      have hk0 : (0 : Int) ≤ (k : Int) := by omega
      gi_wp2_with fail
      refine ⟨trivial, (callsIn_wide.2 (contains_any A c k l W (Kd.C_below hr HI.out.low) hk (hw.below HI.out.low (Nat.le_refl _)) hs)).mono ?_⟩
      rintro e W1 ⟨rfl, hb1⟩
      have HKK : Hid (W1.heap[D]? = some (.deferred (some []))) := Lib.hid ((hb1.block D (Array.getElem?_eq_some_iff.1 HK.out).1).trans HK.out)
      have HLL : Hid (Below w.heap.size w W1) := Lib.hid (HI.out.low.trans (hb1.mono HI.out.low.size))
      have hcf1 : W1.cell? ⟨w.heap.size, 0, none⟩ = some (.int .i64 k) := (hb1.cell (World.block_lt_of_cell? _ _ hcf)).trans hcf
      clear hb1 hcf
      rw [Int.toNat_natCast] at HWH
      cases hany : (l.take k).any (fun x => !isBl x) with
      | false =>
        have HE : Hid (whereL l = (0, false)) := Lib.hid (by rw [HWH.out, if_pos (.inr hany)])
        gi_wp2_with fail
        refine ⟨by simp, .inl ⟨_, _, rfl, run_takeDeferred HKK.out, ?_⟩⟩
        exact ⟨_, results_tmp2 rfl _ _ _, by rw [HE.out]; rfl, HLL.out.grown (grownBy_putObj' _ D _) HLL.out.size (fun k e => by cases e; omega)⟩
      | true =>
        have HE : Hid (whereL l = ((k : Int), true)) := Lib.hid (by rw [HWH.out, if_neg (fun h => h.elim (fun h => by omega) (fun h => by rw [hany] at h; cases h))])
        gi_wp2_with fail
        refine ⟨by simp, .inl ⟨_, _, rfl, run_takeDeferred HKK.out, ?_⟩⟩
        exact ⟨_, results_tmp2 rfl _ _ _, by rw [HE.out]; rfl, HLL.out.grown (grownBy_putObj' _ D _) HLL.out.size (fun k e => by cases e; omega)⟩
theorem where_any (A : Option Addr) (c : Nat) (l : List S32) (w : World) (hr : Kd.C k32 w A l.length l) (hc : l.length ≤ c) (hw : FdAt w) (hs : Szd l) :
    Calls Tryd.prog 11 #[.slice A l.length c] w fun e w' => e = .returned (.tuple #[.int .i64 (whereL l).1, .bool (whereL l).2]) ∧ Below w.heap.size w w' :=
  callsIn_wide.1 (where_in A c l w hr hc hw hs)
end Go.Proofs.YtdgdilbbpnlplaaDoor
