/- The reference's Open. -/
import Derived.Test.YtdgdilbbpnlplaaDoorOpenW
import Derived.Test.YtdgdilbbpnlplaaDoorPrx1
set_option linter.unusedVariables false
set_option linter.unusedSimpArgs false
namespace Go.Proofs.YtdgdilbbpnlplaaDoor
open Go.RowKit Go.Shelf Pr Go.Proofs.YtdgdilbbpnlplaaDoorW.PrintWords Go.Proofs.YtdgdilbbpnlplaaDoorW.PrintLast Go.Proofs.YtdgdilbbpnlplaaDoorW.PrintMore
attribute [local go_sem high] eqA41
theorem add0 (a : Addr) : a.add 0 = a := by
  unfold Addr.add
  simp
theorem markB_len {l : List S41} (h : l.length ≠ 1) : markB l = false := by
  match l, h with
  | [], _ => rfl
  | [a], h => exact absurd rfl h
  | a :: b :: r, _ => rfl
theorem markB_one {l : List S41} (h : l.length = 1) : markB l = ((rd_T41 l 0).f0.toList == [116, 105, 116, 108, 101] && (rd_T41 l 0).f1.toList == [113, 117, 111, 116, 101, 100]) := by
  match l, h with
  | [a], _ => rfl
set_option maxHeartbeats 4000000 in
set_option maxRecDepth 100000 in
theorem openR_any (A : Option Addr) (c d : Nat) (l : List S32) (w : World) (hr : Kd.C k32 w A l.length l) (hc : l.length ≤ c) (hf : fit d l = true) :
    Calls Tryd.prog 17 #[.slice A l.length c] w (CopPost w (openL l)) := by
  have hu32 := Tryd.underlying32
  have hu41 := Tryd.underlying41
  have hlen := fit_len hf
  have HFIT := Lib.hid hf
  have HCO := Lib.hid (copy_any d A c l w hr hc hf)
  clear hr hf
  go_enter Tryd.func17, Tryd.ntmps17
  go_wp2_with fail
  refine HCO.out.mono ?_
  rintro e W1 ⟨v, rfl, hv, hb⟩
  obtain ⟨A', cap, rfl⟩ := Kd.R_slice hv
  obtain ⟨_, hcap, hC⟩ := Kd.R_reads' hv
  have HV := Lib.hid hv
  have HB1 := Lib.hid hb
  have HC := Lib.hid hC
  clear hv hb hC HCO
  dsimp only
  by_cases h0 : l.length = 0
  · have HO : Hid (openL l = l) := Lib.hid (by unfold openL; rw [if_pos h0])
    have h0i : ((l.length : Nat) : Int) = 0 := by omega
    have h0b : ((l.length : Int) == 0) = true := by rw [h0i]; rfl
    go_wp2
    go_ret
    exact ⟨_, rfl, by rw [HO.out]; first | exact HV.out | (have := HV.out; rwa [h0] at this), HB1.out⟩
  · obtain ⟨k, hk⟩ : ∃ k, l.length = k + 1 := ⟨l.length - 1, by omega⟩
    have hm : (l.length : Int) - 1 = (k : Int) := by omega
    have h0i : ¬ ((l.length : Nat) : Int) = 0 := by omega
    have h0b : ((l.length : Int) == 0) = false := by simpa using h0i
    have hk0 : (0 : Int) ≤ (k : Int) := by omega
    have hk1 : (k : Int) < (l.length : Int) := by omega
    have hk2 : (k : Int) ≤ (l.length : Int) := by omega
    have hk3 : (k : Int) ≤ (cap : Int) := by omega
    obtain ⟨ad, A1, c1, A3, c3, e, hx0, hx1, hx2, hx3, l1, g1, l3, g3⟩ := at_T32 HC.out (k : Int) hk0 hk1
    subst e
    have hrd : rd_T32 l (k : Int) = lastN l := by unfold rd_T32 lastN; rw [Int.toNat_natCast, hk, Nat.add_sub_cancel]
    rw [hrd] at hx0 hx1 hx2 hx3 l1 g1 l3 g3
    simp only [Int.toNat_natCast] at hx0 hx1 hx2 hx3
    have HOP : Hid (openL l = if isFold (lastN l) then l.take k ++ (lastN l).f3 else l) := Lib.hid (by unfold openL; rw [if_neg h0, hk, Nat.add_sub_cancel])
    have HIF : Hid (isFold (lastN l) = ((lastN l).f0.toList == [100, 105, 118] && markB (lastN l).f1)) := Lib.hid rfl
    have HEL : Hid (l[k]? = some (lastN l)) := Lib.hid (by unfold lastN; rw [hk, Nat.add_sub_cancel, getD_get (by omega), List.getElem?_eq_getElem (by omega)])
    have HL1 := Lib.hid (And.intro l1 g1)
    have HL3 := Lib.hid (And.intro l3 g3)
    have HX3 := Lib.hid hx3
    have HK := Lib.hid hk
    clear hrd l1 g1 l3 g3 hk h0
    generalize lastN l = x at *
    go_wp2_with (first | ((with_reducible refine gate_dst (N := 18) rfl ?_); refine stop_ ?_))
    obtain ⟨W2, hW2⟩ : ∃ W2, W1.alloc (.cells #[.string x.f0, .slice A1 x.f1.length c1, .string x.f2, .slice A3 x.f3.length c3] 32) = W2 := ⟨_, rfl⟩
    have hB2 : Below W1.heap.size W1 W2 := by rw [← hW2]; exact (Below.refl _ _).alloc (Nat.le_refl _) _
    have hnew : W2.heap[W1.heap.size]? = some (.cells #[.string x.f0, .slice A1 x.f1.length c1, .string x.f2, .slice A3 x.f3.length c3] 32 (0, 0)) := by rw [← hW2]; exact heap_alloc_new W1 _
    have hb0 : W2.cell? ⟨W1.heap.size, 0, none⟩ = some (.string x.f0) := by simp [World.cell?, hnew]
    have hb1 : W2.cell? ⟨W1.heap.size, 1, none⟩ = some (.slice A1 x.f1.length c1) := by simp [World.cell?, hnew]
    have hb3 : W2.cell? ⟨W1.heap.size, 3, none⟩ = some (.slice A3 x.f3.length c3) := by simp [World.cell?, hnew]
    rw [hW2]
    have HB2 := Lib.hid hB2
    have HNEW := Lib.hid hnew
    clear hW2 hB2 hnew hx0 hx1 hx2 hx3
    generalize hbe : W1.heap.size = b at *
    unfold Stop
    cases hnm : (x.f0.toList == [100, 105, 118]) with
    | false =>
      have hO : openL l = l := by rw [HOP.out, HIF.out, hnm]; rfl
      have HO := Lib.hid hO
      clear hO
      go_wp2
      go_ret
      exact ⟨_, rfl, by rw [HO.out]; exact Kd.R_below HV.out (by rw [hbe]; exact HB2.out), HB1.out.trans (HB2.out.mono (by rw [← hbe]; exact HB1.out.size))⟩
    | true =>
      by_cases hl1 : x.f1.length = 1
      · have h1i : ((x.f1.length : Nat) : Int) = 1 := by omega
        obtain ⟨ad1, ea, ha0, ha1⟩ := at_T41 HL1.out.2 0 (by omega) (by omega)
        have HMK := Lib.hid (markB_one hl1)
        generalize rd_T41 x.f1 0 = y at *
        subst ea
        rw [show Int.toNat 0 * 2 = 0 by rfl] at ha0 ha1
        rw [← hbe] at HB2
        replace ha0 := (HB2.out.cell (World.block_lt_of_cell? _ _ ha0)).trans ha0
        replace ha1 := (HB2.out.cell (World.block_lt_of_cell? _ _ ha1)).trans ha1
        rw [hbe] at HB2
        rw [add0] at ha0 ha1
        cases hm1 : (y.f0.toList == [116, 105, 116, 108, 101]) with
        | false =>
          have hO : openL l = l := by rw [HOP.out, HIF.out, hnm, HMK.out, hm1]; rfl
          have HO := Lib.hid hO
          clear hO
          go_wp2
          go_ret
          exact ⟨_, rfl, by rw [HO.out]; exact Kd.R_below HV.out (by rw [hbe]; exact HB2.out), HB1.out.trans (HB2.out.mono (by rw [← hbe]; exact HB1.out.size))⟩
        | true =>
          cases hm2 : (y.f1.toList == [113, 117, 111, 116, 101, 100]) with
          | false =>
            have hO : openL l = l := by rw [HOP.out, HIF.out, hnm, HMK.out, hm1, hm2]; rfl
            have HO := Lib.hid hO
            clear hO
            go_wp2
            go_ret
            exact ⟨_, rfl, by rw [HO.out]; exact Kd.R_below HV.out (by rw [hbe]; exact HB2.out), HB1.out.trans (HB2.out.mono (by rw [← hbe]; exact HB1.out.size))⟩
          | true =>
            have hO : openL l = l.take k ++ x.f3 := by rw [HOP.out, HIF.out, hnm, HMK.out, hm1, hm2]; rfl
            have HO := Lib.hid hO
            clear hO
            go_wp2_with (first | ((with_reducible refine gate_dst (N := 42) rfl ?_); at_builtin; refine stop_ ?_))
            obtain ⟨rows, rows3, hr1, hr3, hC1, hC3, hM1, hM3⟩ := elem_rows HV.out HEL.out HX3.out
            have HRL := Lib.hid (And.intro hr1 hr3)
            have HRM := Lib.hid (And.intro hM1 hM3)
            have hk3l : x.f3.length ≤ 1000 := by
              cases d with
              | zero => have := HFIT.out; unfold fit at this; cases l with
                | nil => exact absurd hk1 (by first | (simp; done) | (simp; omega))
                | cons _ _ => simp at this
              | succ d => exact fit_len ((fit_elem HFIT.out).2 x (List.mem_of_getElem? HEL.out)).2.2
            have hkl : k < l.length := by omega
            have e9 : (rows.take k).length = k := by rw [List.length_take, HRL.out.1]; omega
            have hCa : Kd.C (Kd.raw 4) W1 (some ad) k (rows.take k) := by
              have h9 := Kd.C_take (m := k) (by rw [HRL.out.1]; exact hC1) (by rw [HRL.out.1]; omega)
              rwa [e9] at h9
            rw [← hbe] at HB2
            have HCa := Lib.hid (Kd.C_below hCa HB2.out)
            have HCb := Lib.hid (Kd.C_below hC3 HB2.out)
            have HE9 := Lib.hid e9
            clear hr1 hr3 hC1 hC3 hM1 hM3 hCa e9
            unfold Stop
            go_wp2_with (first | ((with_reducible refine gate_dst (N := 42) rfl ?_); at_builtin; refine Kd.R_append_rows (Kd.raw 4) (Rr := (Kd.raw 4).K W2) (w0 := W1) W1.heap.size rfl (.tmp 36) (.tmp 41) 22 32 (.agg #[(.string ⟨#[]⟩), (.slice none 0 0), (.string ⟨#[]⟩), (.slice none 0 0)]) 80 rfl Tryd.underlying22 info32' rfl (by decide) (by decide) (.slice none 0 0) [] (rows.take k) (some ad) k cap (fun _ => True) (fun _ => False) rfl rfl (Kd.R_nil _ _ _ _ _) HCa.out (fun x cs hk => hk) (fun _ hk => hk.elim) (fun _ _ => trivial) HB2.out HB2.out.size (by simp; omega) ?_; intro v1 W3 ho hb hg hat; rw [List.nil_append] at ho; have HO3 := Lib.hid ho; have HB3 := Lib.hid hb; have hb3' := ((grown_below hg).cell (World.block_lt_of_cell? _ _ hb3)).trans hb3; have HCc := Lib.hid (Kd.C_below HCb.out (grown_below hg)); clear ho hb hg hat hb3 hb0 hb1; refine stop_ ?_))
            unfold Stop
            go_wp2_with (first | ((with_reducible refine gate_dst (N := 46) rfl ?_); at_builtin; refine Kd.R_append_rows (Kd.raw 4) (Rr := (Kd.raw 4).K W3) (w0 := W1) W1.heap.size rfl (.tmp 43) (.tmp 45) 22 32 (.agg #[(.string ⟨#[]⟩), (.slice none 0 0), (.string ⟨#[]⟩), (.slice none 0 0)]) 80 rfl Tryd.underlying22 info32' rfl (by decide) (by decide) v1 (rows.take k) rows3 A3 x.f3.length c3 (fun _ => True) (fun _ => False) rfl rfl HO3.out HCc.out (fun x cs hk => hk) (fun _ hk => hk.elim) (fun _ _ => trivial) HB3.out HB3.out.size (by rw [HE9.out]; omega) ?_; intro v2 W4 ho hb hg hat; have HO4 := Lib.hid ho; have HB4 := Lib.hid hb; clear ho hb hg hat))
            have HV5 := cat_R (l := l.take k) (m := x.f3) HB1.out.size HB4.out HO4.out (by rw [List.length_take, List.length_take, HRL.out.1]) HRL.out.2
              (fun j y cs hy hc => by
                rw [List.getElem?_take] at hy hc
                split at hy
                · rename_i hj; rw [if_pos hj] at hc; exact HRM.out.1 j y cs hy hc
                · cases hy) HRM.out.2
            go_ret
            exact ⟨_, rfl, by rw [HO.out]; exact HV5, HB1.out.trans (HB4.out.mono HB1.out.size)⟩
      · have hO : openL l = l := by rw [HOP.out, HIF.out, hnm, markB_len hl1]; rfl
        have HO := Lib.hid hO
        clear hO
        have h1i : ¬ ((x.f1.length : Nat) : Int) = 1 := by omega
        go_wp2
        go_ret
        exact ⟨_, rfl, by rw [HO.out]; exact Kd.R_below HV.out (by rw [hbe]; exact HB2.out), HB1.out.trans (HB2.out.mono (by rw [← hbe]; exact HB1.out.size))⟩
end Go.Proofs.YtdgdilbbpnlplaaDoor
