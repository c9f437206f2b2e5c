/- css.Clean walked. -/
import Derived.Test.YtollfaphadcnnaaDoorClean
import Derived.Lib.AppendStr
set_option linter.unusedVariables false
set_option linter.unusedSimpArgs false
namespace Go.Proofs.YtollfaphadcnnaaDoor
open Go.RowKit Go.Shelf Plain Pr Go.Proofs.YtollfaphadcnnaaDoorW.PrintWords Go.Proofs.YtollfaphadcnnaaDoorW.PrintLast Go.Proofs.YtollfaphadcnnaaDoorW.PrintMore
theorem cutCalls (s : ByteArray) (w : World) (hs : s.size ≤ 1000000) : Calls Tryd.prog 12 #[.string s] w fun e w' => ∃ v, e = .returned v ∧ Kd.R k29 29 w' w.heap.size (fun _ => True) v (Pure.cutV s.data.toList) ∧ Below w.heap.size w w' := by
  obtain ⟨k, hk⟩ := (Pure.cut_ev s.data.toList (by rw [show s.data.toList.length = s.size by simp]; omega)).ex
  rw [← Pure.B_of s] at hk
  exact css_Cut.calls k s _ w hk
/-- What holds between two rounds. -/
structure CI (L : List S29) (g : Nat) (w2 : World) (i : Nat) (all : List ByteArray) (v : Value) (W : World) : Prop where
  out : all ++ lastOf (L.drop i) = lastOf L
  len : all.length ≤ i
  row : Kd.R Kd.string 9 W w2.heap.size (fun _ => True) v all
  bel : Below w2.heap.size w2 W
  two : Row2 w2 g L
theorem CI.skip {L : List S29} {g : Nat} {w2 : World} {i : Nat} {all : List ByteArray} {v : Value} {W W' : World} (h : CI L g w2 i all v W) (hi : i < L.length) (hb : Below W.heap.size W W')
    (hq : ((L.drop (i + 1)).take (L.length - (i + 1))).any (fun e => e.f0.toList == (L.getD i z29).f0.toList) = true) : CI L g w2 (i + 1) all v W' := by
  refine ⟨?_, by have := h.len; omega, Kd.R_below h.row hb, below_step h.bel hb, h.two⟩
  rw [← h.out, lastOf_step L i hi, hq]; rfl
theorem CI.more {L : List S29} {g : Nat} {w2 : World} {i : Nat} {all : List ByteArray} {v v' : Value} {W W' : World} (h : CI L g w2 i all v W) (hi : i < L.length)
    (hq : ((L.drop (i + 1)).take (L.length - (i + 1))).any (fun e => e.f0.toList == (L.getD i z29).f0.toList) = false) (hr : Kd.R Kd.string 9 W' w2.heap.size (fun _ => True) v' (all ++ [line (L.getD i z29)])) (hb : Below w2.heap.size w2 W') : CI L g w2 (i + 1) (all ++ [line (L.getD i z29)]) v' W' := by
  refine ⟨?_, by rw [List.length_append]; have := h.len; simp; omega, hr, hb, h.two⟩
  rw [← h.out, lastOf_step L i hi, hq]; simp
private theorem sz_2 (a0 a1 : UInt8) : (⟨#[a0, a1]⟩ : ByteArray).size = 2 := rfl
theorem joinCalls (all : List ByteArray) (v : Value) (base : Nat) (ok : Nat → Prop) (W : World) (hr : Kd.R Kd.string 9 W base ok v all) (hl : all.length ≤ 1000001) (hm : ∀ t ∈ all, t.size ≤ 2000002) :
    Calls Tryd.prog 29 #[v, .string ⟨#[59, 32]⟩] W fun e w' => e = .returned (.string ⟨(Lib.join (all.map (·.data.toList)) [59, 32]).toArray⟩) ∧ Below W.heap.size W w' := by
  obtain ⟨A, c, rfl⟩ := Kd.R_slice hr
  by_cases h0 : all = []
  · subst h0
    exact (Tryd.strings_Join_none A c _ W).mono fun _ _ ⟨he, hw⟩ => ⟨he, hw ▸ Below.refl _ _⟩
  · have hn : 0 < all.length := List.length_pos_iff.2 h0
    obtain ⟨h1, h2, h3⟩ := Kd.R_reads' hr
    obtain ⟨inner, ho⟩ := Kd.R_own hr
    rcases ho.2 with ⟨he, hz⟩ | ⟨g, cap, cur, he, hg, hb, hle, hcap, _⟩
    · omega
    · injection he with e1 e2 e3
      subst e1 e3
      have hlt : g < W.heap.size := by
        rcases Nat.lt_or_ge g W.heap.size with h | h
        · exact h
        · rw [Array.getElem?_eq_none h] at hb; cases hb
      obtain ⟨_, _, hcell⟩ := h3
      obtain ⟨ad, ea, hcell⟩ := hcell hn
      injection ea with ea
      subst ea
      have hcells : ∀ (j : Nat) x, all[j]? = some x → W.cell? ⟨g, 0 + j, none⟩ = some (.string x) := by
        intro j x hx
        obtain ⟨cs, _, hK, hc⟩ := hcell j x hx
        have hcs : cs = [.string x] := hK
        subst hcs
        have := hc 0 _ rfl
        rw [Addr.add_lit, show Kd.string.sz = 1 from rfl, Nat.mul_one, Nat.add_zero] at this
        exact this
      have hj := join_len [59, 32] (all.map (·.data.toList)) 2000002 (fun t ht => by
        obtain ⟨x, hx, rfl⟩ := List.mem_map.1 ht
        have := hm x hx
        simpa using this)
      rw [List.length_map] at hj
      have hj2 : all.length * (2000002 + [59, 32].length) ≤ 1000001 * 2000004 := Nat.mul_le_mul hl (Nat.le_refl _)
      exact Tryd.strings_Join g 0 c all ⟨#[59, 32]⟩ W hcells hlt (by omega) h2 (by show (Lib.join (all.map (·.data.toList)) [59, 32]).length ≤ _; omega)
def anyB (L : List S29) (i : Nat) (x : S29) : Bool := ((L.drop (i + 1)).take (L.length - (i + 1))).any (fun e => e.f0.toList == x.f0.toList)
theorem cont_last (L : List S29) (i : Nat) (x : S29) (h : L.length ≤ i + 1) (n : Nat) (hn : n = 0) (A : Option Addr) (c : Nat) (f : Value) (W : World) : Calls Tryd.prog 27 #[.slice A n c, f] W fun e w' => e = .returned (.bool (anyB L i x)) ∧ Below W.heap.size W w' := by
  have hz : L.length - (i + 1) = 0 := by omega
  have ha : anyB L i x = false := by unfold anyB; rw [hz]; rfl
  rw [hn, ha]
  exact (cont_empty A c f W).mono fun _ _ ⟨he, hw⟩ => ⟨he, hw ▸ Below.refl _ _⟩
theorem cont_any (L : List S29) (g i : Nat) (x : S29) (c box : Nat) (W : World) (hr : Row2 W g L) (hl : L.length ≤ 1000001) (hc : W.cell? ⟨box, 0, none⟩ = some (.string x.f0)) (hb : box < W.heap.size) :
    Calls Tryd.prog 27 #[.slice (some ⟨g, (i + 1) * 2, none⟩) (L.length - (i + 1)) c, .func (.func 28) #[] #[.pointer (some ⟨box, 0, none⟩)]] W fun e w' => e = .returned (.bool (anyB L i x)) ∧ Below W.heap.size W w' :=
  Tryd.slices_ContainsFunc 2 agg29 siz29 enc2 (fun _ => rfl) (fun e => e.f0.toList == x.f0.toList) 28 #[.pointer (some ⟨box, 0, none⟩)] enters28 g ((i + 1) * 2) (L.length - (i + 1)) c (L.drop (i + 1)) W (pred28 box x.f0 W hc hb) (by rw [List.length_drop]; omega) (by omega) hr.lt (hr.cells (i + 1))
set_option maxRecDepth 20000 in
set_option maxHeartbeats 4000000 in
theorem clean_any (s : ByteArray) (w : World) (hN : NmAt w) (hs : s.size ≤ 1000000) :
    Calls Tryd.prog 14 #[.string s] w fun e w' => e = .returned (.string (cleanV s.data.toList)) ∧ Below w.heap.size w w' := by
  have hsl : s.data.toList.length = s.size := by simp
  have hclen := cutV_len s.data.toList
  have hmem := cutV_mem s.data.toList
  have hcut := cutCalls s w hs
  have hdel := fun (A : Option Addr) (c : Nat) (W : World) hB hR => delf_any (Pure.cutV s.data.toList) A c (fun _ => True) w W hN hB hR (by omega)
  have hLm : ∀ x ∈ keepL (Pure.cutV s.data.toList), x.f0.size ≤ 1000000 ∧ x.f1.size ≤ 1000000 := fun x hx => by
    have := hmem x (List.mem_filter.1 hx).1
    omega
  have hLl := keepL_len (Pure.cutV s.data.toList)
  have hV : cleanV s.data.toList = ⟨(Lib.join ((lastOf (keepL (Pure.cutV s.data.toList))).map (·.data.toList)) [59, 32]).toArray⟩ := rfl
  have hLn : (keepL (Pure.cutV s.data.toList)).length ≤ 1000001 := by omega
  clear hmem hclen hLl
  unfold DelPost at hdel
  generalize cleanV s.data.toList = V at *
  generalize keepL (Pure.cutV s.data.toList) = L at *
  generalize Pure.cutV s.data.toList = X at *
  have HV := Lib.hid hV
  have HM := Lib.hid hLm
  have HD := Lib.hid hdel
  have HCUT := Lib.hid hcut
  clear hV hLm hdel hcut hsl hN
  go_enter Tryd.func14, Tryd.ntmps14
  go_wp2_with fail
  refine HCUT.out.mono ?_
  rintro e w1 ⟨v1, rfl, hR, hb1⟩
  obtain ⟨A1, c1, rfl⟩ := Kd.R_slice hR
  have hdel2 := HD.out A1 c1 w1 hb1 hR
  have HD2 := Lib.hid hdel2
  clear hdel2 HD hR hb1
  go_wp2_with fail
  refine HD2.out.mono ?_
  rintro e w2 ⟨A, c, rfl, hLc, hrow, hb2⟩
  have HB2 := Lib.hid hb2
  have HROW := Lib.hid hrow
  clear hb2 hrow HD2
  by_cases hL : L = []
  · have HV2 : Hid (V = ⟨#[]⟩) := Lib.hid (by rw [HV.out, hL]; rfl)
    subst hL
    clear HROW HV HM
    simp only [List.length_nil] at *
    go_wp2
    go_loopw [12, 4] (fun s12 s4 wr => s12 = .int .i64 0 ∧ s4 = .slice none 0 0 ∧ Hid (Below w.heap.size w wr)) (fun _ _ _ => 0)
    case atStart => exact ⟨rfl, rfl, HB2⟩
    case round =>
      obtain ⟨rfl, rfl, HB⟩ := hrel
      go_wp2_with (first | (go_at_call 29; refine (Tryd.strings_Join_none _ _ _ _).mono ?_; rintro e w' ⟨rfl, rfl⟩))
      go_ret
      exact ⟨by rw [HV2.out]; rfl, HB.out⟩
  · obtain ⟨g, rfl, hrow⟩ := HROW.out hL
    have hI : CI L g w2 0 [] (.slice none 0 0) w2 := ⟨by rw [List.drop_zero]; rfl, by simp, Kd.R_nil _ _ _ _ _, Below.refl _ _, hrow⟩
    have HI0 := Lib.hid hI
    clear hI hrow HROW hL
    go_wp2
    go_loopw [12, 4] (fun s12 s4 wr => ∃ (i : Nat) (all : List ByteArray), s12 = .int .i64 i ∧ i ≤ L.length ∧ Hid (CI L g w2 i all s4 wr)) (fun s12 _ _ => L.length - (intOf s12).toNat)
    case atStart => exact ⟨0, [], rfl, Nat.zero_le _, HI0⟩
    case round =>
      obtain ⟨i, all, rfl, hi, HI⟩ := hrel
      clear HI0
      by_cases hlt : i < L.length
      · have hrow := HI.out.two.below HI.out.bel
        have hc0 := hrow.c0 i hlt
        have hc1 := hrow.c1 i hlt
        have hglt := hrow.lt
        have hsx := HM.out (L.getD i z29) (by rw [List.getD_eq_getElem?_getD, List.getElem?_eq_getElem hlt]; exact List.getElem_mem hlt)
        obtain ⟨x, hx⟩ : ∃ x, L.getD i z29 = x := ⟨_, rfl⟩
        rw [hx] at hc0 hc1 hsx
        obtain ⟨hs0, hs1⟩ := hsx
        have HX := Lib.hid hx
        have hltz : (i : Int) < (L.length : Int) := by omega
        have HROW := Lib.hid hrow
        clear hx hrow
        obtain ⟨q, hq⟩ : ∃ q, anyB L i x = q := ⟨_, rfl⟩
        have hlast := fun (h : L.length ≤ i + 1) => cont_last L i x h
        have hcont := fun (c box : Nat) (W : World) hr hb hlt => cont_any L g i x c box W hr hLn hb hlt
        rw [hq] at hlast hcont
        have HLAST := Lib.hid hlast
        have HCONT := Lib.hid hcont
        have HQ := Lib.hid hq
        clear hlast hcont hq
        have key : ∀ (A : Option Addr) (n' c' : Nat) (f : Value) (W W' : World), Below W.heap.size W W' → Below W'.heap.size W' W' → True := fun _ _ _ _ _ _ _ _ => trivial
        clear key
        have hcc : (i + 1 = c ∧ L.length ≤ i + 1 ∧ L.length - c = 0) ∨ ¬ c = i + 1 := by omega
        rcases hcc with ⟨hci, hle, hnz⟩ | hci
        all_goals
          first | (have HLE := Lib.hid hle; have HNZ := Lib.hid hnz; clear hle hnz) | skip
          go_wp2_with fail
          first
          | ((with_reducible refine (HLAST.out HLE.out 0 rfl _ _ _ _).mono ?_))
          | refine (HCONT.out _ _ _ (HROW.out.below (below_alloc (Below.refl _ _) _)) (by
              unfold World.cell?
              rw [show (wr.alloc (.cells #[.string x.f0, .string x.f1] 29)).heap[wr.heap.size]? = some (.cells #[.string x.f0, .string x.f1] 29 (0, 0)) from heap_alloc_new wr _]
              rfl) (by simp)).mono ?_
          rintro e w3 ⟨rfl, hb⟩
          have HB3 := Lib.hid (below_step (below_alloc (Below.refl wr.heap.size wr) (.cells #[.string x.f0, .string x.f1] 29)) hb)
          have b0 := box_at hb 0 _ rfl
          have b1 := box_at hb 1 _ rfl
          have HR3 := Lib.hid (Kd.R_below HI.out.row HB3.out)
          have HW3 := Lib.hid (below_step HI.out.bel HB3.out)
          clear hb hc0 hc1 hglt
          cases q
          · have a1 : (x.f0 ++ (⟨#[58, 32]⟩ : ByteArray)).size ≤ 9223372036854775807 := by rw [ByteArray.size_append]; show x.f0.size + 2 ≤ _; omega
            have a2 : (x.f0 ++ (⟨#[58, 32]⟩ : ByteArray) ++ x.f1).size ≤ 9223372036854775807 := by rw [ByteArray.size_append, ByteArray.size_append]; show x.f0.size + 2 + x.f1.size ≤ _; omega
            have a1b : decide ((x.f0 ++ (⟨#[58, 32]⟩ : ByteArray)).size ≤ 9223372036854775807) = true := decide_eq_true a1
            have a2b : decide ((x.f0 ++ (⟨#[58, 32]⟩ : ByteArray) ++ x.f1).size ≤ 9223372036854775807) = true := decide_eq_true a2
            have a1n := a1
            simp only [ByteArray.size_append, sz_2] at a1n
            have a2n := a2
            simp only [ByteArray.size_append, sz_2] at a2n
            have a1c := eq_true a1n
            have a2c := eq_true a2n
            have a1d := eq_false (Nat.not_lt.2 a1n)
            have a2d := eq_false (Nat.not_lt.2 a2n)
            go_wp2_with (first | ((with_reducible refine gate_builtin (b := .append) (xs := #[.tmp 24, .tmp 31]) rfl ?_); at_builtin; refine Kd.R_append Kd.string (w0 := w2) w2.heap.size rfl (.tmp 24) (.tmp 31) 35 9 (.string ⟨#[]⟩) 16 rfl Tryd.underlying35 info9 rfl (by decide) (by omega) u4 all (x.f0 ++ (⟨#[58, 32]⟩ : ByteArray) ++ x.f1) [.string (x.f0 ++ (⟨#[58, 32]⟩ : ByteArray) ++ x.f1)] (fun _ => True) (fun _ => False) rfl rfl rfl (fun _ hk => hk.elim) (fun _ _ => trivial) HR3.out HW3.out HW3.out.size (by have := HI.out.len; omega) ?_; intro v1 w4 ho hb4 hg4 hat4; have HO4 := Lib.hid ho; have HB4 := Lib.hid hb4; clear ho hb4 hg4 hat4))
            go_roundw
            case rel => exact ⟨i + 1, all ++ [line (L.getD i z29)], by go_num, by omega, Lib.hid (HI.out.more hlt (by rw [HX.out]; exact HQ.out) (by rw [HX.out]; exact HO4.out) HB4.out)⟩
            case measure => simp [intOf]; omega
          · go_wp2
            go_roundw
            case rel => exact ⟨i + 1, all, by go_num, by omega, Lib.hid (HI.out.skip hlt HB3.out (by rw [HX.out]; exact HQ.out))⟩
            case measure => simp [intOf]; omega
      · obtain rfl : i = L.length := by omega
        have hltz : ¬ (L.length : Int) < (L.length : Int) := by omega
        have hout : all = lastOf L := by
          have := HI.out.out
          rw [List.drop_length] at this
          simpa [lastOf] using this
        have hjn := fun (W : World) (hb : Below wr.heap.size wr W) => joinCalls all u4 w2.heap.size (fun _ => True) W (Kd.R_below HI.out.row hb) (by have := HI.out.len; omega) (fun t ht => lastOf_mem L 1000000 HM.out t (by rw [← hout]; exact ht))
        have hv2 : V = ⟨(Lib.join (all.map (·.data.toList)) [59, 32]).toArray⟩ := by rw [HV.out, hout]
        have HJ := Lib.hid (hjn wr (Below.refl _ _))
        have HV3 := Lib.hid hv2
        have HBE := Lib.hid (below_step HB2.out HI.out.bel)
        clear hjn hv2 hout HI
        go_wp2_with fail
        refine HJ.out.mono ?_
        rintro e w5 ⟨rfl, hb⟩
        go_wp2
        go_ret
        exact ⟨by rw [HV3.out]; rfl, below_step HBE.out hb⟩
end Go.Proofs.YtollfaphadcnnaaDoor
