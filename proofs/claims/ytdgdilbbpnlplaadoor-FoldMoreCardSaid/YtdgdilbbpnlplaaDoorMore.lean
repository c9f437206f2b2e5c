/- The law FoldMore, walked by hand: the print does not take a row of the caller's nodes appended. -/
import Derived.Test.YtdgdilbbpnlplaaDoorMath
import Derived.Test.YtdgdilbbpnlplaaDoorGiven
import Derived.Test.YtdgdilbbpnlplaaDoorPrx3
set_option linter.unusedVariables false
set_option linter.unusedSimpArgs false
namespace Go.Proofs.YtdgdilbbpnlplaaDoor
open Go.RowKit Go.Shelf Pr Go.Proofs.YtdgdilbbpnlplaaDoorW.PrintWords Go.Proofs.YtdgdilbbpnlplaaDoorW.PrintLast Go.Proofs.YtdgdilbbpnlplaaDoorW.PrintMore
theorem C_of_raw {A : Option Addr} {n c : Nat} {L : List S32} {rows : List (List Value)} {W : World} {base : Nat} {ok : Nat → Prop} (h : (Kd.raw 4).R 32 W base ok (.slice A n c) rows) (hl : rows.length = L.length)
    (hK : ∀ (j : Nat) (x : S32) (cs : List Value), L[j]? = some x → rows[j]? = some cs → k32.K W x cs) : n = L.length ∧ n ≤ c ∧ Kd.C k32 W A L.length L := by
  obtain ⟨h1, h2, hC⟩ := Kd.R_reads' h
  refine ⟨h1.trans hl, h2, rfl, by rw [← hl]; exact hC.2.1, fun hp => ?_⟩
  obtain ⟨ad, e, hj⟩ := hC.2.2 (by omega)
  refine ⟨ad, e, fun j x hx => ?_⟩
  have hjl : j < rows.length := by rw [hl]; exact (List.getElem?_eq_some_iff.1 hx).1
  obtain ⟨cs, h3, h4, h5⟩ := hj j _ (List.getElem?_eq_getElem hjl)
  refine ⟨cs, h3, ?_, h5⟩
  have e1 : cs = rows[j] := h4.1
  rw [e1]
  exact hK j x _ hx (List.getElem?_eq_getElem hjl)
theorem flat_K (W : World) (x : S32) (h1 : x.f1 = []) (h3 : x.f3 = []) : k32.K W x [.string x.f0, .slice none 0 0, .string x.f2, .slice none 0 0] := by
  obtain ⟨f0, f1, f2, f3⟩ := x
  subst h1 h3
  exact k32_mk W ⟨f0, [], f2, []⟩ (Nat.le_refl _) (Kd.R_reads' (Kd.R_nil k41 41 W 0 (fun _ => True))).2.2 (Nat.le_refl _) (Kd.R_reads' (Kd.R_nil k32 32 W 0 (fun _ => True))).2.2
theorem snoc_K {W : World} {L : List S32} {rows : List (List Value)} {x : S32} {c : List Value} (hl : rows.length = L.length)
    (hK : ∀ (j : Nat) (x : S32) (cs : List Value), L[j]? = some x → rows[j]? = some cs → k32.K W x cs) (hx : k32.K W x c) :
    ∀ (j : Nat) (y : S32) (cs : List Value), (L ++ [x])[j]? = some y → (rows ++ [c])[j]? = some cs → k32.K W y cs := by
  intro j y cs hy hc
  by_cases hj : j < L.length
  · rw [List.getElem?_append_left hj] at hy
    rw [List.getElem?_append_left (by omega)] at hc
    exact hK j y cs hy hc
  · rw [List.getElem?_append_right (by omega)] at hy
    rw [List.getElem?_append_right (by omega)] at hc
    obtain ⟨m, hm⟩ : ∃ m, m = j - L.length := ⟨_, rfl⟩
    rw [← hm] at hy
    rw [hl, ← hm] at hc
    rcases m with _ | m
    · cases hy; cases hc; exact hx
    · simp at hy
def cQ : List Value := [.string ⟨#[98, 108, 111, 99, 107, 113, 117, 111, 116, 101]⟩, .slice none 0 0, .string ⟨#[]⟩, .slice none 0 0]
def cB : List Value := [.string ⟨#[98, 114]⟩, .slice none 0 0, .string ⟨#[]⟩, .slice none 0 0]
def cX : List Value := [.string ⟨#[]⟩, .slice none 0 0, .string ⟨#[120]⟩, .slice none 0 0]
theorem szd_snoc {l : List S32} {n : Nat} (h : l.length ≤ n ∧ ∀ x ∈ l, x.f2.size ≤ 1000000) (hn : n < 1000000) (x : S32) (hx : x.f2.size ≤ 1000000) : (l ++ [x]).length ≤ n + 1 ∧ ∀ y ∈ l ++ [x], y.f2.size ≤ 1000000 :=
  ⟨by simp; exact h.1, fun y hy => by
    rcases List.mem_append.1 hy with hy | hy
    · exact h.2 y hy
    · obtain rfl : y = x := by simpa using hy
      exact hx⟩
set_option maxHeartbeats 8000000 in
set_option maxRecDepth 100000 in
theorem more_any (K : Nat) (A : Option Addr) (c : Nat) (l : List S32) (w : World) (hr : Kd.C k32 w A l.length l) (hc : l.length ≤ c) (sm : Bool) (hS : muslinref14_Small.f K l = some sm) (hf : sm = true → fit 100 l = true) (hN : FdW w) :
    Calls Tryd.prog 7 #[.slice A l.length c] w fun e w' => e = .returned (.bool true) ∧ Below w.heap.size w w' := by
  have hu32 := Tryd.underlying32
  have HSM := Lib.hid (muslinref14_Small.calls K A c l sm w hr hc hS)
  have HR := Lib.hid hr
  have HN := Lib.hid hN
  have HF := Lib.hid hf
  clear hr hN hf hS
  go_enter Tryd.func7, Tryd.ntmps7
  go_wp2_with fail
  refine HSM.out.mono ?_
  rintro e W1 ⟨rfl, hb1⟩
  have HB1 := Lib.hid hb1.below
  clear hb1 HSM
  cases sm with
  | false =>
    dsimp only
    go_wp2_with fail
    refine (live_any W1 (HN.out.below HB1.out)).mono ?_
    rintro e W2 ⟨rfl, hb2⟩
    have HB2 := Lib.hid (HB1.out.trans (hb2.mono HB1.out.size))
    clear hb2
    dsimp only
    go_wp2
    go_ret
    exact ⟨rfl, HB2.out⟩
  | true =>
    have hfit := HF.out rfl
    have hlen := fit_len hfit
    have HSZ := Lib.hid (szd_fit hfit)
    have HSZ0 := Lib.hid (And.intro hlen (szd_fit hfit).2)
    clear hfit
    dsimp only
    go_wp2_with fail
    refine (where_any A c l W1 (Kd.C_below HR.out HB1.out) hc (HN.out.below HB1.out) HSZ.out).mono ?_
    rintro e W2 ⟨rfl, hb2⟩
    have HB2 := Lib.hid (HB1.out.trans (hb2.mono HB1.out.size))
    clear hb2
    obtain ⟨rows, hr1, hr2, hr3⟩ := nodes_raw HR.out
    have HRL := Lib.hid hr1
    have HRC := Lib.hid (Kd.C_below hr2 HB2.out)
    have HRK := Lib.hid hr3
    have HWQ := Lib.hid (fun h => more_where (l := l) h)
    have HWX := Lib.hid (more_none l)
    clear hr1 hr2 hr3
    generalize hwl : whereL l = r at *
    obtain ⟨at0, is0⟩ := r
    dsimp only
    go_wp2_with (first | ((with_reducible refine gate_dst (N := 21) rfl ?_); at_builtin; refine Kd.R_append_rows (Kd.raw 4) (Rr := (Kd.raw 4).K W2) (w0 := w) (W := W2) w.heap.size rfl (.tmp 19) (.tmp 20) 22 32 (.agg #[(.string ⟨#[]⟩), (.slice none 0 0), (.string ⟨#[]⟩), (.slice none 0 0)]) 80 rfl Tryd.underlying22 info32' rfl (by decide) (by decide) (.slice none 0 0) [] rows A l.length c (fun _ => True) (fun _ => False) rfl rfl (Kd.R_nil _ _ _ _ _) HRC.out (fun x cs hk => hk) (fun _ hk => hk.elim) (fun _ _ => trivial) HB2.out HB2.out.size (by simp; omega) ?_; intro v3 W3 ho hb hg hat; rw [List.nil_append] at ho; have HO3 := Lib.hid ho; have HB3 := Lib.hid hb; clear ho hb hg hat; refine stop_ ?_))
    unfold Stop
    go_wp2_with (first | ((with_reducible refine gate_dst (N := 25) rfl ?_); at_builtin; refine Kd.R_append (Kd.raw 4) (w0 := w) (W := W3) w.heap.size rfl (.tmp 22) (.tmp 24) 22 32 (.agg #[(.string ⟨#[]⟩), (.slice none 0 0), (.string ⟨#[]⟩), (.slice none 0 0)]) 80 rfl Tryd.underlying22 info32' rfl (by decide) (by decide) v3 rows cQ cQ (fun _ => True) (fun _ => False) rfl rfl ⟨rfl, rfl, by decide⟩ (fun _ hk => hk.elim) (fun _ _ => trivial) HO3.out HB3.out HB3.out.size (by simp only [List.length_append, List.length_singleton, HRL.out]; omega) ?_; intro v4 W4 ho hb hg hat; have HO4 := Lib.hid ho; have HB4 := Lib.hid hb; clear ho hb hg hat; refine stop_ ?_))
    unfold Stop
    go_wp2_with (first | ((with_reducible refine gate_dst (N := 29) rfl ?_); at_builtin; refine Kd.R_append (Kd.raw 4) (w0 := w) (W := W4) w.heap.size rfl (.tmp 26) (.tmp 28) 22 32 (.agg #[(.string ⟨#[]⟩), (.slice none 0 0), (.string ⟨#[]⟩), (.slice none 0 0)]) 80 rfl Tryd.underlying22 info32' rfl (by decide) (by decide) v4 (rows ++ [cQ]) cB cB (fun _ => True) (fun _ => False) rfl rfl ⟨rfl, rfl, by decide⟩ (fun _ hk => hk.elim) (fun _ _ => trivial) HO4.out HB4.out HB4.out.size (by simp only [List.length_append, List.length_singleton, HRL.out]; omega) ?_; intro v5 W5 ho hb hg hat; have HO5 := Lib.hid ho; have HB5 := Lib.hid hb; clear ho hb hg hat; refine stop_ ?_))
    obtain ⟨A5, c5, e5⟩ := Kd.R_slice HO5.out
    have hl5 : (rows ++ [cQ] ++ [cB]).length = (l ++ [mQ] ++ [mB]).length := by simp [HRL.out]
    rw [hl5] at e5
    subst e5
    have hK5 : ∀ (W : World), Below w.heap.size w W → ∀ (j : Nat) (x : S32) (cs : List Value), (l ++ [mQ] ++ [mB])[j]? = some x → (rows ++ [cQ] ++ [cB])[j]? = some cs → k32.K W x cs := fun W hb =>
      snoc_K (by simp [HRL.out]) (snoc_K HRL.out (fun j x cs hx hc => k32.K_below hb (HRK.out j x cs hx hc)) (flat_K W mQ rfl rfl)) (flat_K W mB rfl rfl)
    have HK5 := Lib.hid hK5
    obtain ⟨_, hc5, hC5⟩ := C_of_raw HO5.out hl5 (hK5 W5 HB5.out)
    have hz5 := szd_snoc (szd_snoc HSZ0.out (by omega) mQ (by decide)) (by omega) mB (by decide)
    have HC5 := Lib.hid hC5
    have HZ5 := Lib.hid hz5
    clear hC5 hz5 hK5
    obtain ⟨n5, hn5⟩ : ∃ n5, n5 = (l ++ [mQ] ++ [mB]).length := ⟨_, rfl⟩
    have HL5 := Lib.hid hl5
    have HN5 := Lib.hid hn5
    rw [← hn5] at HO5 hc5 ⊢
    clear hl5 hn5
    unfold Stop
    go_wp2_with fail
    have hw5 := where_any A5 c5 (l ++ [mQ] ++ [mB]) W5 HC5.out (by rw [← HN5.out]; exact hc5) (HN.out.below HB5.out) ⟨by have := HZ5.out.1; omega, HZ5.out.2⟩
    rw [← HN5.out] at hw5
    refine hw5.mono ?_
    clear hw5
    rintro e W6 ⟨rfl, hb6⟩
    have HO6 := Lib.hid (Kd.R_below HO5.out hb6)
    have HB6 := Lib.hid (HB5.out.trans (hb6.mono HB5.out.size))
    clear hb6 HC5 HO5
    generalize hwm : whereL (l ++ [mQ] ++ [mB]) = r2 at *
    obtain ⟨k0, now⟩ := r2
    have hcond : is0 = true → now = true ∧ k0 = at0 := fun h => by
      have := HWQ.out h
      cases this
      exact ⟨h, rfl⟩
    have HCOND := Lib.hid hcond
    clear hcond hwm
    dsimp only
    have tail : ∀ (a : Act), a.tmps.size = 59 → True := fun _ _ => trivial
    clear tail
    cases is0 with
    | false =>
      go_wp2_with (first | ((with_reducible refine gate_dst (N := 48) rfl ?_); at_builtin; refine stop_ ?_))
      unfold Stop
      go_wp2_with (first | ((with_reducible refine gate_dst (N := 48) rfl ?_); at_builtin; refine Kd.R_append (Kd.raw 4) (w0 := w) (W := W6) w.heap.size rfl (.tmp 45) (.tmp 47) 22 32 (.agg #[(.string ⟨#[]⟩), (.slice none 0 0), (.string ⟨#[]⟩), (.slice none 0 0)]) 80 rfl Tryd.underlying22 info32' rfl (by decide) (by decide) (.slice A5 n5 c5) (rows ++ [cQ] ++ [cB]) cX cX (fun _ => True) (fun _ => False) rfl rfl ⟨rfl, rfl, by decide⟩ (fun _ hk => hk.elim) (fun _ _ => trivial) HO6.out HB6.out HB6.out.size (by simp only [List.length_append, List.length_singleton, HRL.out]; omega) ?_; intro v7 W7 ho hb hg hat; have HO7 := Lib.hid ho; have HB7 := Lib.hid hb; clear ho hb hg hat; refine stop_ ?_))
      obtain ⟨A7, c7, e7⟩ := Kd.R_slice HO7.out
      have hl7 : (rows ++ [cQ] ++ [cB] ++ [cX]).length = (l ++ [mQ] ++ [mB] ++ [mX]).length := by simp [HRL.out]
      rw [hl7] at e7
      subst e7
      obtain ⟨_, hc7, hC7⟩ := C_of_raw HO7.out hl7 (snoc_K HL5.out (HK5.out W7 HB7.out) (flat_K W7 mX rfl rfl))
      have hz7 := szd_snoc HZ5.out (by omega) mX (by decide)
      have HC7 := Lib.hid hC7
      have HZ7 := Lib.hid hz7
      have HWX' := HWX
      clear hC7 hz7
      obtain ⟨n7, hn7⟩ : ∃ n7, n7 = (l ++ [mQ] ++ [mB] ++ [mX]).length := ⟨_, rfl⟩
      have HN7 := Lib.hid hn7
      rw [← hn7] at HO7 hc7 ⊢
      clear hl7 hn7
      unfold Stop
      go_wp2_with fail
      have hw7 := where_any A7 c7 (l ++ [mQ] ++ [mB] ++ [mX]) W7 HC7.out (by rw [← HN7.out]; exact hc7) (HN.out.below HB7.out) ⟨by have := HZ7.out.1; omega, HZ7.out.2⟩
      rw [← HN7.out, HWX.out] at hw7
      refine hw7.mono ?_
      clear hw7
      rintro e W8 ⟨rfl, hb8⟩
      have HB8 := Lib.hid (HB7.out.trans (hb8.mono HB7.out.size))
      clear hb8
      dsimp only
      go_wp2_with fail
      refine (live_any W8 (HN.out.below HB8.out)).mono ?_
      rintro e W9 ⟨rfl, hb9⟩
      have HB9 := Lib.hid (HB8.out.trans (hb9.mono HB8.out.size))
      clear hb9
      dsimp only
      go_wp2
      go_ret
      exact ⟨rfl, HB9.out⟩
    | true =>
      obtain ⟨rfl, rfl⟩ := HCOND.out rfl
      go_wp2_with (first | ((with_reducible refine gate_dst (N := 48) rfl ?_); at_builtin; refine stop_ ?_))
      unfold Stop
      go_wp2_with (first | ((with_reducible refine gate_dst (N := 48) rfl ?_); at_builtin; refine Kd.R_append (Kd.raw 4) (w0 := w) (W := W6) w.heap.size rfl (.tmp 45) (.tmp 47) 22 32 (.agg #[(.string ⟨#[]⟩), (.slice none 0 0), (.string ⟨#[]⟩), (.slice none 0 0)]) 80 rfl Tryd.underlying22 info32' rfl (by decide) (by decide) (.slice A5 n5 c5) (rows ++ [cQ] ++ [cB]) cX cX (fun _ => True) (fun _ => False) rfl rfl ⟨rfl, rfl, by decide⟩ (fun _ hk => hk.elim) (fun _ _ => trivial) HO6.out HB6.out HB6.out.size (by simp only [List.length_append, List.length_singleton, HRL.out]; omega) ?_; intro v7 W7 ho hb hg hat; have HO7 := Lib.hid ho; have HB7 := Lib.hid hb; clear ho hb hg hat; refine stop_ ?_))
      obtain ⟨A7, c7, e7⟩ := Kd.R_slice HO7.out
      have hl7 : (rows ++ [cQ] ++ [cB] ++ [cX]).length = (l ++ [mQ] ++ [mB] ++ [mX]).length := by simp [HRL.out]
      rw [hl7] at e7
      subst e7
      obtain ⟨_, hc7, hC7⟩ := C_of_raw HO7.out hl7 (snoc_K HL5.out (HK5.out W7 HB7.out) (flat_K W7 mX rfl rfl))
      have hz7 := szd_snoc HZ5.out (by omega) mX (by decide)
      have HC7 := Lib.hid hC7
      have HZ7 := Lib.hid hz7
      have HWX' := HWX
      clear hC7 hz7
      obtain ⟨n7, hn7⟩ : ∃ n7, n7 = (l ++ [mQ] ++ [mB] ++ [mX]).length := ⟨_, rfl⟩
      have HN7 := Lib.hid hn7
      rw [← hn7] at HO7 hc7 ⊢
      clear hl7 hn7
      unfold Stop
      go_wp2_with fail
      have hw7 := where_any A7 c7 (l ++ [mQ] ++ [mB] ++ [mX]) W7 HC7.out (by rw [← HN7.out]; exact hc7) (HN.out.below HB7.out) ⟨by have := HZ7.out.1; omega, HZ7.out.2⟩
      rw [← HN7.out, HWX.out] at hw7
      refine hw7.mono ?_
      clear hw7
      rintro e W8 ⟨rfl, hb8⟩
      have HB8 := Lib.hid (HB7.out.trans (hb8.mono HB7.out.size))
      clear hb8
      dsimp only
      go_wp2_with fail
      refine (live_any W8 (HN.out.below HB8.out)).mono ?_
      rintro e W9 ⟨rfl, hb9⟩
      have HB9 := Lib.hid (HB8.out.trans (hb9.mono HB8.out.size))
      clear hb9
      dsimp only
      go_wp2
      go_ret
      exact ⟨rfl, HB9.out⟩
namespace Pr
def muslinlaw21_FoldMore.f (k : Nat) (l0 : List S32) : Option Bool := (muslinref14_Small.f k l0).bind fun sm => if (!sm || fit 100 l0) = true then some true else none
theorem muslinlaw21_FoldMore.calls (k : Nat) (A0 : Option Addr) (c0 : Nat) (l0 : List (S32)) (r : Bool) (w : World) (hr0 : Kd.C k32 w A0 l0.length l0) (hc0 : l0.length ≤ c0) (h : muslinlaw21_FoldMore.f k l0 = some r) (hN : FdW w) :
    Calls Tryd.prog 7 #[.slice A0 l0.length c0] w fun e w' => e = .returned (.bool r) ∧ Below w.heap.size w w' := by
  obtain ⟨sm, h1, h2⟩ := Option.bind_eq_some_iff.mp h
  obtain ⟨h3, rfl⟩ := if_some h2
  exact more_any k A0 c0 l0 w hr0 hc0 sm h1 (fun hs => by rw [hs] at h3; exact h3) hN
end Pr
end Go.Proofs.YtdgdilbbpnlplaaDoor
