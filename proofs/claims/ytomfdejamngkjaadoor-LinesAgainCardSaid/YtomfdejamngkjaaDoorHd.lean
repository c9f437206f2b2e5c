/- A message's header: what is kept on the way, and how the open field is shut. -/
import Derived.Test.YtomfdejamngkjaaDoorWr
import Derived.Test.YtomfdejamngkjaaDoorLinesW
set_option linter.unusedVariables false
set_option linter.unusedSimpArgs false
namespace Go.Proofs.YtomfdejamngkjaaDoor
open Go.RowKit Plain Pr Go.Proofs.YtomfdejamngkjaaDoorW.PrintWords
/-- The fields so far; the texts of the value of the one that is open. -/
abbrev HdSt := List S29 × Option (List (List UInt8))
def cells29 (l : List S29) : List Value := (l.map fun x => [Value.string x.f0, Value.string x.f1]).flatten
def strs (l : List (List UInt8)) : List Value := l.map fun x => Value.string ⟨x.toArray⟩
def setLast (l : List S29) (v : List UInt8) : List S29 := l.dropLast ++ (l.getLast?.map fun x => (⟨x.f0, ⟨v.toArray⟩⟩ : S29)).toList
def shutL (st : HdSt) : HdSt := match st.2 with
  | none => st
  | some vs => (setLast st.1 (Lib.trimS vs.flatten ws), none)
def ValsAt (n0 : Nat) (v : Value) (W : World) : Option (List (List UInt8)) → Prop
  | none => v = .slice none 0 0
  | some vs => W.ownsRow n0 9 1 v vs.length (strs vs) ∧ 0 < vs.length
structure HdAt (h : Nat) (st : HdSt) (W : World) : Prop where
  rowL : ∃ v, Boxed W h 27 v ∧ W.ownsRow (h + 5) 29 2 v st.1.length (cells29 st.1)
  vals : ∃ v, Boxed W (h + 1) 24 v ∧ ValsAt (h + 5) v W st.2
  fit : st.2 ≠ none → st.1 ≠ []
/-- What shutting leaves alone: all but the box of the values, and the fields' row. -/
structure Shuts (h : Nat) (W W' : World) : Prop where
  os : W'.os = W.os
  tape : W'.tape = W.tape
  output : W'.output = W.output
  size : W.heap.size ≤ W'.heap.size
  block : ∀ k, k < W.heap.size → k ≠ h + 1 → (h + 5 ≤ k → ∀ cells, W.heap[k]? ≠ some (.cells cells 29 (0, 0))) → W'.heap[k]? = W.heap[k]?
theorem Shuts.of_below {h : Nat} {W W' : World} (hb : Below W.heap.size W W') : Shuts h W W' := ⟨hb.os, hb.tape, hb.output, hb.size, fun k hk _ _ => hb.block k hk⟩
theorem Shuts.setBox {h : Nat} {A W : World} (hs : Shuts h A W) (v : Value) : Shuts h A (W.setCell ⟨h + 1, 0, none⟩ v) :=
  ⟨hs.os, hs.tape, hs.output, by rw [World.size_setCell]; exact hs.size, fun k hk h1 h2 => (Below.heap_setCell W ⟨h + 1, 0, none⟩ v k h1).trans (hs.block k hk h1 h2)⟩
theorem cells29_len (l : List S29) : (cells29 l).length = l.length * 2 := by
  induction l with
  | nil => rfl
  | cons x l ih => simp only [cells29, List.map_cons, List.flatten_cons, List.length_append, List.length_cons, List.length_nil] at *; omega
theorem valsAt_kept {n0 : Nat} {v : Value} {W W' : World} {o : Option (List (List UInt8))} (h : ValsAt n0 v W o) (hb : ∀ k, v.ownBlock = some k → W'.heap[k]? = W.heap[k]?) : ValsAt n0 v W' o := by
  cases o with
  | none => exact h
  | some vs => exact ⟨own_move h.1 hb, h.2⟩
theorem hdAt_box {h : Nat} {W : World} {st : HdSt} {v : Value} {o : Option (List (List UInt8))} (hH : HdAt h st W) (hv : ValsAt (h + 5) v W o) (hf : o ≠ none → st.1 ≠ []) : HdAt h (st.1, o) (W.setCell ⟨h + 1, 0, none⟩ v) := by
  obtain ⟨⟨lv, hl, hr⟩, ⟨vv, hb, _⟩, _⟩ := hH
  refine ⟨⟨lv, (Below.heap_setCell W ⟨h + 1, 0, none⟩ v h (by simp)).trans hl, own_move hr (fun k hk => Below.heap_setCell W ⟨h + 1, 0, none⟩ v k ?_)⟩, ⟨v, hb.set v, valsAt_kept hv (fun k hk => Below.heap_setCell W ⟨h + 1, 0, none⟩ v k ?_)⟩, hf⟩
  · have := own_base hr k hk
    show k ≠ h + 1
    omega
  · cases o with
    | none => rw [show v = .slice none 0 0 from hv] at hk; simp [Value.ownBlock] at hk
    | some vs => have := own_base hv.1 k hk; show k ≠ h + 1; omega
theorem join_flat : ∀ vs : List (List UInt8), Lib.join vs [] = vs.flatten
  | [] => rfl
  | x :: r => by
    rw [Lib.join_cons]
    simp [Lib.joinTail]
theorem neq_nil24 (W : World) : (binOp .neq 24 (.slice none 0 0) (.slice none 0 0)).run Tryd.prog W = .ok (.bool false) W := by
  have := run_neq_slice_nil_any (P := Tryd.prog) W 24 9 none 0 0 0 0 Tryd.underlying24
  simpa using this
theorem neq_some24 (W : World) (a : Addr) (n c : Nat) : (binOp .neq 24 (.slice (some a) n c) (.slice none 0 0)).run Tryd.prog W = .ok (.bool true) W := by
  have := run_neq_slice_nil_any (P := Tryd.prog) W 24 9 (some a) n c 0 0 Tryd.underlying24
  simpa using this
theorem cells29_append (a b : List S29) : cells29 (a ++ b) = cells29 a ++ cells29 b := by
  simp [cells29]
/-- The open field's value written into the fields' row. -/
theorem row_setLast {W : World} {n0 g cap n : Nat} {out : List S29} (h : W.ownsRow n0 29 2 (.slice (some ⟨g, 0, none⟩) (n + 1) cap) (n + 1) (cells29 out)) (hn : out.length = n + 1) (T : List UInt8) :
    (W.setCell ⟨g, n * 2 + 1, none⟩ (.string ⟨T.toArray⟩)).ownsRow n0 29 2 (.slice (some ⟨g, 0, none⟩) (n + 1) cap) (n + 1) (cells29 (setLast out T)) := by
  obtain ⟨hlen, hv | ⟨g', cap', cur, hv, hb, hg, hc, hm, hs, htk⟩⟩ := h
  · cases hv.1
  cases hv
  obtain ⟨init, x, rfl⟩ : ∃ init x, out = init ++ [x] := ⟨out.dropLast, out.getLast (by intro h; simp [h] at hn), (List.dropLast_concat_getLast _).symm⟩
  have hin : init.length = n := by simpa using hn
  have e1 : setLast (init ++ [x]) T = init ++ [⟨x.f0, ⟨T.toArray⟩⟩] := by simp [setLast]
  rw [e1]
  refine ⟨by rw [cells29_len]; simp [hin], .inr ⟨g, cap, cur.setIfInBounds (n * 2 + 1) (.string ⟨T.toArray⟩), rfl, hb, ?_, hc, hm, by rw [Array.size_setIfInBounds]; exact hs, ?_⟩⟩
  · obtain ⟨hlt, hk⟩ := Array.getElem?_eq_some_iff.1 hg
    show (W.heap.modify g _)[g]? = _
    rw [Array.getElem?_eq_getElem (by rw [Array.size_modify]; exact hlt), Array.getElem_modify_self, hk]
    rfl
  · rw [Array.toList_setIfInBounds, List.take_set, htk, cells29_append, cells29_append]
    have : (cells29 init).length = n * 2 := by rw [cells29_len, hin]
    rw [List.set_append_right _ _ (by omega), this, show n * 2 + 1 - n * 2 = 1 by omega]
    rfl
set_option maxHeartbeats 4000000 in
set_option maxRecDepth 100000 in
theorem shut_any (h : Nat) (st : HdSt) (w : World) (hH : HdAt h st w) (hw : h + 5 ≤ w.heap.size) (hout : st.1.length ≤ 500) (hlen : ∀ vs, st.2 = some vs → vs.length ≤ 1000000 ∧ vs.flatten.length ≤ 1000000000) :
    Calls Tryd.prog 26 #[.pointer (some ⟨h + 1, 0, none⟩), .pointer (some ⟨h, 0, none⟩)] w fun e w' => e = .returned (.tuple #[]) ∧ HdAt h (shutL st) w' ∧ Shuts h w w' := by
  obtain ⟨⟨lv, hbl, hrl⟩, ⟨vv, hbv, hvv⟩, hfit⟩ := id hH
  obtain ⟨out, o⟩ := st
  cases o with
  | none =>
    have hvn : vv = .slice none 0 0 := hvv
    subst hvn
    have c1 := hbv.cell
    have f1 := hbv.frozen
    have HF := Lib.hid (hdAt_box (o := none) hH (v := .slice none 0 0) rfl (fun h => absurd rfl h))
    clear hH hbl hrl hbv hvv hfit
    have hnn := neq_nil24
    go_enter Tryd.func26, Tryd.ntmps26
    go_wp2
    go_end0
    exact ⟨rfl, HF.out, (Shuts.of_below (Below.refl _ _)).setBox _⟩
  | some vs =>
    obtain ⟨hrv, hv0⟩ : w.ownsRow (h + 5) 9 1 vv vs.length (strs vs) ∧ 0 < vs.length := hvv
    obtain ⟨hl1, hl2⟩ := hlen vs rfl
    have hne : out ≠ [] := hfit (by simp)
    have hn0 : 0 < out.length := List.length_pos_iff.2 hne
    obtain ⟨g, cap, rfl⟩ : ∃ g cap, lv = .slice (some ⟨g, 0, none⟩) out.length cap := by
      rcases hrl.2 with ⟨_, h0⟩ | ⟨g, cap, cur, hv, _⟩
      · exact absurd h0 (by show ¬ out.length = 0; omega)
      · exact ⟨g, cap, hv⟩
    obtain ⟨gv, capv, rfl⟩ : ∃ g cap, vv = .slice (some ⟨g, 0, none⟩) vs.length cap := by
      rcases hrv.2 with ⟨_, h0⟩ | ⟨g, cap, cur, hv, _⟩
      · omega
      · exact ⟨g, cap, hv⟩
    have cv := hbv.cell
    have cl := hbl.cell
    have fv := hbv.frozen
    obtain ⟨curv, hcurv, hctk⟩ : ∃ cur, w.heap[gv]? = some (.cells cur 9 (0, 0)) ∧ cur.toList.take (vs.length * 1) = strs vs := by
      rcases hrv.2 with ⟨hv, _⟩ | ⟨g', cap', cur, hv, _, hh, _, _, _, htk⟩
      · cases hv
      · cases hv; exact ⟨cur, hh, htk⟩
    have hJ : Hid (∀ W : World, W.heap = w.heap → Calls Tryd.prog 28 #[.slice (some ⟨gv, 0, none⟩) vs.length capv, .string ⟨#[]⟩] W fun e w' => e = .returned (.string ⟨vs.flatten.toArray⟩) ∧ Below W.heap.size W w') := Lib.hid (fun W hW => by
      have hcells : ∀ (j : Nat) x, (vs.map fun l : List UInt8 => (⟨l.toArray⟩ : ByteArray))[j]? = some x → W.cell? ⟨gv, 0 + j, none⟩ = some (.string x) := by
        intro j x hx
        rw [List.getElem?_map, Option.map_eq_some_iff] at hx
        obtain ⟨y, hy, rfl⟩ := hx
        have hj : j < vs.length := (List.getElem?_eq_some_iff.1 hy).1
        have h1 : (strs vs)[j]? = some (.string ⟨y.toArray⟩) := by simp [strs, hy]
        rw [← hctk, List.getElem?_take, if_pos (by omega)] at h1
        have : W.heap[gv]? = some (.cells curv 9 (0, 0)) := by rw [hW]; exact hcurv
        simp [World.cell?, this, Nat.zero_add]
        simpa using h1
      have hcap : vs.length ≤ capv := by
        rcases hrv.2 with ⟨hv, _⟩ | ⟨g', cap', cur, hv, _, _, hc, _⟩
        · cases hv
        · cases hv; exact hc
      have hjn : Lib.join ((vs.map fun l : List UInt8 => (⟨l.toArray⟩ : ByteArray)).map (·.data.toList)) (⟨#[]⟩ : ByteArray).data.toList = vs.flatten := by
        rw [List.map_map, show ((fun x : ByteArray => x.data.toList) ∘ fun l : List UInt8 => (⟨l.toArray⟩ : ByteArray)) = id from rfl, List.map_id]
        exact join_flat vs
      have := Tryd.strings_Join gv 0 capv (vs.map fun l : List UInt8 => (⟨l.toArray⟩ : ByteArray)) ⟨#[]⟩ W hcells (by rw [hW]; exact (Array.getElem?_eq_some_iff.1 hcurv).1) (by rw [List.length_map]; omega) (by rw [List.length_map]; exact hcap) (by rw [hjn]; omega)
      rw [List.length_map, hjn] at this
      exact this)
    have HT : Hid (∀ W, Calls Tryd.prog 27 #[.string ⟨vs.flatten.toArray⟩, .string ⟨#[32, 9]⟩] W fun e w' => e = .returned (.string ⟨(Lib.trimS vs.flatten ws).toArray⟩) ∧ Below W.heap.size W w') := Lib.hid (fun W => trim_any ⟨vs.flatten.toArray⟩ W (by rw [Lib.size_eq]; show vs.flatten.length ≤ _; omega))
    have hg5 : h + 5 ≤ g := own_base hrl g rfl
    have hgv5 : h + 5 ≤ gv := own_base hrv gv rfl
    obtain ⟨curl, hcurl, hcsz, hcltk⟩ : ∃ cur, w.heap[g]? = some (.cells cur 29 (0, 0)) ∧ out.length * 2 ≤ cur.size ∧ cur.toList.take (out.length * 2) = cells29 out := by
      rcases hrl.2 with ⟨hv, _⟩ | ⟨g', cap', cur, hv, _, hh, hc, _, hs, htk⟩
      · cases hv
      · cases hv
        refine ⟨cur, hh, ?_, htk⟩
        have : out.length ≤ cap := hc
        omega
    have hgl : g < w.heap.size := (Array.getElem?_eq_some_iff.1 hcurl).1
    have hcell : ∃ u, w.cell? ⟨g, (out.length - 1) * 2 + 1, none⟩ = some u := by
      have : (out.length - 1) * 2 + 1 < curl.size := by omega
      exact ⟨curl[(out.length - 1) * 2 + 1], by simp [World.cell?, hcurl, this]⟩
    obtain ⟨u0, hu0⟩ := hcell
    have hfr : w.frozen? ⟨g, (out.length - 1) * 2 + 1, none⟩ = false := by simp [World.frozen?, hcurl]
    obtain ⟨n, hn⟩ : ∃ n, out.length = n + 1 := ⟨out.length - 1, by omega⟩
    rw [hn] at cl
    rw [hn, Nat.add_sub_cancel] at hu0 hfr
    have HOUT := Lib.hid hn
    have HS0 := Lib.hid hH
    have hcap2 : n + 1 ≤ cap := by
      rcases hrl.2 with ⟨hv, _⟩ | ⟨g', cap', cur, hv, _, _, hc, _⟩
      · cases hv
      · cases hv; rw [← hn]; exact hc
    have HRL := Lib.hid hrl
    have HBL := Lib.hid hbl
    have HBV := Lib.hid hbv
    have hns := neq_some24
    have hw1 : IntKind.i64.wrap (n : Int) = (n : Int) := IntWalk.i64_in _ (by have h1 : out.length ≤ 500 := hout; have h2 := HOUT.out; omega)
    have hcurl0 := Lib.hid hcurl
    clear hH hbl hbv hrl hrv hfit hlen hcurv hctk hcurl hcsz hcltk hn hne hn0
    have hi0 : (0 : Int) ≤ (n : Int) := by omega
    have hi1 : (n : Int) < (n : Int) + 1 := by omega
    go_enter Tryd.func26, Tryd.ntmps26
    go_wp2_with fail
    refine wp_region_held_drew (S := fun W' => W'.cell? ⟨h + 1, 0, none⟩ = some (.slice (some ⟨gv, 0, none⟩) vs.length capv) ∧ W'.cell? ⟨h, 0, none⟩ = some (.slice (some ⟨g, 0, none⟩) (n + 1) cap)) (by kernel_rfl) ⟨cv, cl⟩ (fun hHeld => ?_)
    refine take_h (i := 0) (N := some 4) (v := ?_) (a' := ?_) rfl rfl (by kernel_rfl) (by kernel_rfl) (by kernel_rfl) (fun _ _ _ h => h) (Or.inl ⟨by rfl, ?_⟩) (by with_reducible assumption) ?_ ?_
    rotate_left 2
    · intro w' hSw
      try dsimp only at hSw
      go_simp
      try with_reducible rfl
    · simp only [Act.put, List.setIfInBounds_toArray, List.set_cons_zero, List.set_cons_succ]
      rfl
    refine take_h (i := 1) (N := some 5) (v := ?_) (a' := ?_) rfl rfl (by kernel_rfl) (by kernel_rfl) (by kernel_rfl) (fun _ _ _ h => h) (Or.inl ⟨by rfl, ?_⟩) (by with_reducible assumption) ?_ ?_
    rotate_left 2
    · intro w' hSw
      try dsimp only at hSw
      go_simp
      try with_reducible rfl
    · simp only [Act.put, List.setIfInBounds_toArray, List.set_cons_zero, List.set_cons_succ]
      rfl
    refine take_h (i := 2) (N := some 6) (v := ?_) (a' := ?_) rfl rfl (by kernel_rfl) (by kernel_rfl) (by kernel_rfl) (fun _ _ _ h => h) (Or.inl ⟨by rfl, ?_⟩) (by with_reducible assumption) ?_ ?_
    rotate_left 2
    · intro w' hSw
      try dsimp only at hSw
      go_simp
      try with_reducible rfl
    · simp only [Act.put, List.setIfInBounds_toArray, List.set_cons_zero, List.set_cons_succ]
      rfl
    refine take_h (i := 3) (N := some 7) (v := ?_) (a' := ?_) rfl rfl (by kernel_rfl) (by kernel_rfl) (by kernel_rfl) (fun _ _ _ h => h) (Or.inl ⟨by rfl, ?_⟩) (by with_reducible assumption) ?_ ?_
    rotate_left 2
    · intro w' hSw
      try dsimp only at hSw
      go_simp
      try with_reducible rfl
    · simp only [Act.put, List.setIfInBounds_toArray, List.set_cons_zero, List.set_cons_succ]
      rfl
    refine take_h (i := 4) (N := some 8) (v := ?_) (a' := ?_) rfl rfl (by kernel_rfl) (by kernel_rfl) (by kernel_rfl) (fun _ _ _ h => h) (Or.inl ⟨by rfl, ?_⟩) (by with_reducible assumption) ?_ ?_
    rotate_left 2
    · intro w' hSw
      try dsimp only at hSw
      go_simp
      try with_reducible rfl
    · simp only [Act.put, List.setIfInBounds_toArray, List.set_cons_zero, List.set_cons_succ]
      rfl
    refine wpAnyH_ready (rs := [5]) (by kernel_rfl) (by simp) (AllReadyH.cons rfl (fun K hK => ?_) AllReadyH.nil)
    go_simp
    refine (hJ.out w.drew rfl).mono ?_; rintro e w2 ⟨rfl, hb2⟩
    have k2 := And.intro ((hb2.cell (p := ⟨h + 1, 0, none⟩) (World.block_lt_of_cell? _ _ hHeld.1)).trans hHeld.1) ((hb2.cell (p := ⟨h, 0, none⟩) (World.block_lt_of_cell? _ _ hHeld.2)).trans hHeld.2)
    have HB2 := Lib.hid hb2
    clear hb2
    dsimp only
    refine hK.out _ _ k2 (fun hHeld => ?_)
    clear hK K k2
    try simp only [Act.put, List.setIfInBounds_toArray, List.set_cons_zero, List.set_cons_succ]
    refine wpAnyH_ready (rs := [6]) (by kernel_rfl) (by simp) (AllReadyH.cons rfl (fun K hK => ?_) AllReadyH.nil)
    go_simp
    refine (HT.out _).mono ?_; rintro e w3 ⟨rfl, hb3⟩
    have k3 := And.intro ((hb3.cell (p := ⟨h + 1, 0, none⟩) (World.block_lt_of_cell? _ _ hHeld.1)).trans hHeld.1) ((hb3.cell (p := ⟨h, 0, none⟩) (World.block_lt_of_cell? _ _ hHeld.2)).trans hHeld.2)
    have HB3 : Hid (Below w.heap.size w w3) := Lib.hid (((Below.refl _ w).drew.trans HB2.out).trans (hb3.mono HB2.out.size))
    clear hb3 HB2
    dsimp only
    refine hK.out _ _ k3 (fun hHeld => ?_)
    clear hK K k3
    try simp only [Act.put, List.setIfInBounds_toArray, List.set_cons_zero, List.set_cons_succ]
    have hu3 : w3.cell? ⟨g, n * 2 + 1, none⟩ = some u0 := (HB3.out.cell (p := ⟨g, n * 2 + 1, none⟩) hgl).trans hu0
    have hf3 : w3.frozen? ⟨g, n * 2 + 1, none⟩ = false := (HB3.out.frozen (p := ⟨g, n * 2 + 1, none⟩) hgl).trans hfr
    refine take_h (i := 7) (N := some 11) (v := ?_) (a' := ?_) rfl rfl (by kernel_rfl) (by kernel_rfl) (by kernel_rfl) (fun _ _ _ h => h) (Or.inl ⟨by rfl, ?_⟩) (by with_reducible assumption) ?_ ?_
    rotate_left 2
    · intro w' hSw
      try dsimp only at hSw
      go_simp
      try with_reducible rfl
    · simp only [Act.put, List.setIfInBounds_toArray, List.set_cons_zero, List.set_cons_succ]
      rfl
    refine take_h (i := 8) (N := some 12) (v := ?_) (a' := ?_) rfl rfl (by kernel_rfl) (by kernel_rfl) (by kernel_rfl) (fun _ _ _ h => h) (Or.inl ⟨by rfl, ?_⟩) (by with_reducible assumption) ?_ ?_
    rotate_left 2
    · intro w' hSw
      try dsimp only at hSw
      go_simp
      try with_reducible rfl
    · simp only [Act.put, List.setIfInBounds_toArray, List.set_cons_zero, List.set_cons_succ]
      rfl
    refine wpAnyH_ready (rs := [9]) (by kernel_rfl) (by simp) (AllReadyH.cons rfl (fun K hK => ?_) AllReadyH.nil)
    go_simp
    refine hK.out _ _ ⟨?_, ?_⟩ (fun _ => ?_)
    · rw [World.cell?_setCell_other _ _ _ _ (by simp)]; exact hHeld.1
    · rw [World.cell?_setCell_other _ _ _ _ (by simp)]; exact hHeld.2
    clear hK K hHeld
    refine wpAnyH_done (by kernel_rfl) ?_ _
    have hfin : HdAt h (shutL (out, some vs)) ((w3.setCell ⟨g, n * 2 + 1, none⟩ (.string ⟨(Lib.trimS vs.flatten ws).toArray⟩)).setCell ⟨h + 1, 0, none⟩ (.slice none 0 0)) ∧ Shuts h w ((w3.setCell ⟨g, n * 2 + 1, none⟩ (.string ⟨(Lib.trimS vs.flatten ws).toArray⟩)).setCell ⟨h + 1, 0, none⟩ (.slice none 0 0)) := by
      have hB := HB3.out
      have hrow3 : w3.ownsRow (h + 5) 29 2 (.slice (some ⟨g, 0, none⟩) (n + 1) cap) (n + 1) (cells29 out) := by
        have := own_move (w1 := w3) HRL.out (fun k hk => by cases hk; exact hB.block g hgl)
        rwa [HOUT.out] at this
      have hl3 : Boxed w3 h 27 (.slice (some ⟨g, 0, none⟩) (n + 1) cap) := by
        have := (hB.block h (by omega)).trans HBL.out
        rwa [HOUT.out] at this
      have hv3 : Boxed w3 (h + 1) 24 (.slice (some ⟨gv, 0, none⟩) vs.length capv) := (hB.block (h + 1) (by omega)).trans HBV.out
      have hr4 := row_setLast hrow3 HOUT.out (Lib.trimS vs.flatten ws)
      have hl4 : (w3.setCell ⟨g, n * 2 + 1, none⟩ (.string ⟨(Lib.trimS vs.flatten ws).toArray⟩)).heap[h]? = _ := (Below.heap_setCell w3 ⟨g, n * 2 + 1, none⟩ _ h (by show h ≠ g; omega)).trans hl3
      have hv4 : Boxed (w3.setCell ⟨g, n * 2 + 1, none⟩ (.string ⟨(Lib.trimS vs.flatten ws).toArray⟩)) (h + 1) 24 _ := (Below.heap_setCell w3 ⟨g, n * 2 + 1, none⟩ _ (h + 1) (by show h + 1 ≠ g; omega)).trans hv3
      have hlen' : (setLast out (Lib.trimS vs.flatten ws)).length = n + 1 := by
        have := hr4.1
        rw [cells29_len] at this
        omega
      refine ⟨⟨⟨_, (Below.heap_setCell _ ⟨h + 1, 0, none⟩ _ h (by simp)).trans hl4, ?_⟩, ⟨_, hv4.set _, rfl⟩, fun h => absurd rfl h⟩, ⟨?_, ?_, ?_, ?_, ?_⟩⟩
      · show World.ownsRow _ (h + 5) 29 2 _ (setLast out (Lib.trimS vs.flatten ws)).length (cells29 (setLast out (Lib.trimS vs.flatten ws)))
        rw [hlen']
        exact own_move hr4 (fun k hk => by cases hk; exact Below.heap_setCell _ ⟨h + 1, 0, none⟩ _ g (by show g ≠ h + 1; omega))
      · exact hB.os
      · exact hB.tape
      · exact hB.output
      · rw [World.size_setCell, World.size_setCell]; exact hB.size
      · intro k hk h1 h2
        have hkg : k ≠ g := by
          intro e
          subst e
          exact h2 (by omega) _ hcurl0.out
        exact (Below.heap_setCell _ ⟨h + 1, 0, none⟩ _ k h1).trans ((Below.heap_setCell w3 ⟨g, n * 2 + 1, none⟩ _ k hkg).trans (hB.block k hk))
    have hcb : (w3.setCell ⟨g, n * 2 + 1, none⟩ (.string ⟨(Lib.trimS vs.flatten ws).toArray⟩)).cell? ⟨h + 1, 0, none⟩ = some (.slice (some ⟨gv, 0, none⟩) vs.length capv) := by
      rw [World.cell?_setCell_other _ _ _ _ (by simp)]
      exact (HB3.out.cell (p := ⟨h + 1, 0, none⟩) (by show h + 1 < _; omega)).trans cv
    have hcf : (w3.setCell ⟨g, n * 2 + 1, none⟩ (.string ⟨(Lib.trimS vs.flatten ws).toArray⟩)).frozen? ⟨h + 1, 0, none⟩ = false := by
      rw [World.frozen?_setCell]
      exact (HB3.out.frozen (p := ⟨h + 1, 0, none⟩) (by show h + 1 < _; omega)).trans fv
    have HF := Lib.hid hfin
    clear hfin hu3 hf3 HB3 cv fv cl hu0 hfr hns hJ HT HS0 HRL HBL HBV hcurl0 HOUT
    generalize (w3.setCell ⟨g, n * 2 + 1, none⟩ (.string ⟨(Lib.trimS vs.flatten ws).toArray⟩)) = w4 at *
    go_wp2
    go_end0
    exact ⟨rfl, HF.out.1, HF.out.2⟩
end Go.Proofs.YtomfdejamngkjaaDoor
