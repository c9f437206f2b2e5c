/- The reference's Copy. -/
import Derived.Test.YtdgdilbbpnlplaaDoorCopied
set_option linter.unusedVariables false
set_option linter.unusedSimpArgs false
namespace Go.Proofs.YtdgdilbbpnlplaaDoor
open Go.RowKit Go.Shelf Pr Go.Proofs.YtdgdilbbpnlplaaDoorW.PrintWords Go.Proofs.YtdgdilbbpnlplaaDoorW.PrintLast Go.Proofs.YtdgdilbbpnlplaaDoorW.PrintMore
theorem info32'' : (Tryd.prog.info? 32).map (fun i => (i.zero, i.size, i.bytes)) = some (some (.agg #[(.string ⟨#[]⟩), (.slice none 0 0), (.string ⟨#[]⟩), (.slice none 0 0)]), k32.sz, 80) := info32
def Stop (p : Prop) : Prop := p
theorem stop_ {p : Prop} (h : Stop p) : p := h
theorem grown_below {W w1 : World} (h : W.grownBy w1 none) : Below W.heap.size W w1 := ⟨h.os, h.tape, h.output, h.size, fun k hk => h.block k hk (by simp)⟩
set_option maxHeartbeats 4000000 in
set_option maxRecDepth 100000 in
theorem copy_step (A : Option Addr) (c : Nat) (l : List S32) (w : World) (hr : Kd.C k32 w A l.length l) (hc : l.length ≤ c) (hlen : l.length ≤ 1000) (hat : ∀ x ∈ l, x.f1.length ≤ 1000)
    (ih : ∀ x ∈ l, ∀ (A : Option Addr) (c : Nat) (w : World), Kd.C k32 w A x.f3.length x.f3 → x.f3.length ≤ c → Calls Tryd.prog 10 #[.slice A x.f3.length c] w (CopPost w x.f3)) :
    Calls Tryd.prog 10 #[.slice A l.length c] w (CopPost w l) := by
  have hu32 := Tryd.underlying32
  have IH := Lib.hid ih
  have HAT := Lib.hid hat
  have HR := Lib.hid hr
  clear hr ih hat
  go_enter Tryd.func10, Tryd.ntmps10
  go_wp2
  go_loopw [3, 4] (fun o i wr => ∃ k : Nat, k ≤ l.length ∧ i = .int .i64 k ∧ Hid (Kd.R k32 32 wr w.heap.size (fun _ => True) o (l.take k)) ∧ Hid (Below w.heap.size w wr)) (fun _ i _ => l.length - (intOf i).toNat)
  case atStart => exact ⟨0, Nat.zero_le _, rfl, Lib.hid (Kd.R_nil _ _ _ _ _), Lib.hid (Below.refl _ _)⟩
  case round =>
    obtain ⟨k, hk, rfl, HO, Hb⟩ := hrel
    by_cases hlt : k < l.length
    · have hp : (0 : Int) ≤ (k : Int) := by omega
      have hq : (k : Int) < (l.length : Int) := by omega
      obtain ⟨ad, A1, c1, A3, c3, e, hx0, hx1, hx2, hx3, l1, g1, l3, g3⟩ := at_T32 HR.out (k : Int) hp hq
      subst e
      have hrd : rd_T32 l (k : Int) = l[k] := by unfold rd_T32; rw [Int.toNat_natCast, getD_get hlt]
      rw [hrd] at hx0 hx1 hx2 hx3 l1 g1 l3 g3
      have hxm : l[k] ∈ l := List.getElem_mem _
      have htk : l.take (k + 1) = l.take k ++ [l[k]] := by rw [List.take_add_one, List.getElem?_eq_getElem hlt]; rfl
      clear hrd
      generalize l[k] = x at *
      have hbl := World.block_lt_of_cell? w _ hx0
      replace hx0 := (Hb.out.cell (World.block_lt_of_cell? w _ hx0)).trans hx0
      replace hx1 := (Hb.out.cell (World.block_lt_of_cell? w _ hx1)).trans hx1
      replace hx2 := (Hb.out.cell (World.block_lt_of_cell? w _ hx2)).trans hx2
      replace hx3 := (Hb.out.cell (World.block_lt_of_cell? w _ hx3)).trans hx3
      simp only [Int.toNat_natCast] at hx0 hx1 hx2 hx3 hbl
      have HG1 := Lib.hid (And.intro l1 g1)
      have HG3 := Lib.hid (And.intro l3 g3)
      have HXM := Lib.hid hxm
      have HTK := Lib.hid htk
      clear l1 g1 l3 g3 hxm htk
      go_wp2_with (first | ((with_reducible refine gate_dst (N := 18) rfl ?_); refine stop_ ?_))
      obtain ⟨W1, hW1⟩ : ∃ W1, wr.alloc (.cells #[.string x.f0, .slice A1 x.f1.length c1, .string x.f2, .slice A3 x.f3.length c3] 32) = W1 := ⟨_, rfl⟩
      have hB1 : Below wr.heap.size wr W1 := by rw [← hW1]; exact (Below.refl _ _).alloc (Nat.le_refl _) _
      have hnew : W1.heap[wr.heap.size]? = some (.cells #[.string x.f0, .slice A1 x.f1.length c1, .string x.f2, .slice A3 x.f3.length c3] 32 (0, 0)) := by rw [← hW1]; exact heap_alloc_new wr _
      have hs1 : W1.heap.size = wr.heap.size + 1 := by rw [← hW1]; simp
      replace hx1 := (hB1.cell (World.block_lt_of_cell? wr _ hx1)).trans hx1
      replace hx3 := (hB1.cell (World.block_lt_of_cell? wr _ hx3)).trans hx3
      have HC1 := Lib.hid (Kd.C_below HG1.out.2 (Hb.out.trans (hB1.mono Hb.out.size)))
      have HO1 := Lib.hid (Kd.R_bound HO.out)
      have hbs := Hb.out.size
      have HB1 := Lib.hid hB1
      have HNEW := Lib.hid hnew
      have HL1 := Lib.hid (HAT.out x HXM.out)
      rw [hW1]
      clear hW1 hnew hB1 hx0 hx2
      have hblb : (ad.add (k * 4)).block ≠ wr.heap.size := by have := Hb.out.size; omega
      generalize hbe : wr.heap.size = b at *
      unfold Stop
      go_wp2_with (first | ((with_reducible refine gate_dst (N := 21) rfl ?_); at_builtin; refine Kd.R_append_rows k41 (Rr := k41.K W1) (w0 := wr) b rfl (.const (.slice none 0 0)) (.tmp 20) 30 41 (.agg #[(.string ⟨#[]⟩), (.string ⟨#[]⟩)]) 32 rfl Tryd.underlying30 info41' rfl (by decide) (by decide) (.slice none 0 0) [] x.f1 A1 x.f1.length c1 (fun k_ => b + 1 ≤ k_) (fun _ => False) rfl rfl (Kd.R_nil _ _ _ _ _) HC1.out (fun x cs hk => by have e := k41_open hk; subst e; exact k41_mkM _ _ _ x) (fun _ hk => hk.elim) (fun k_ hk => by omega) HB1.out (by omega) (by have := HL1.out; simp; omega) ?_; intro v1 W2 ho2 hb2 hg2 hat2; have HV1 := Lib.hid ho2; have HB2 := Lib.hid hb2; have HG2 := Lib.hid (grown_below hg2); obtain ⟨B1, d1, e1⟩ := Kd.R_slice HV1.out; subst e1; clear ho2 hb2 hg2 hat2; refine stop_ ?_))
      have hN2 : W2.heap[b]? = some (.cells #[.string x.f0, .slice A1 x.f1.length c1, .string x.f2, .slice A3 x.f3.length c3] 32 (0, 0)) := (HG2.out.block b (by omega)).trans HNEW.out
      have hx3' := (HG2.out.cell (World.block_lt_of_cell? W1 _ hx3)).trans hx3
      have hc1 := (blk_cell hN2 1).trans rfl
      have hf1 := blk_frozen hN2 1
      have HN2 := Lib.hid hN2
      clear hx1 hx3 hN2
      unfold Stop
      go_wp2_with (first | ((with_reducible refine gate_dst (N := 25) rfl ?_); refine stop_ ?_))
      obtain ⟨W3, hW3⟩ : ∃ W3, W2.setCell ⟨b, 1, none⟩ (.slice B1 x.f1.length d1) = W3 := ⟨_, rfl⟩
      have hN3 : W3.heap[b]? = some (.cells #[.string x.f0, .slice B1 x.f1.length d1, .string x.f2, .slice A3 x.f3.length c3] 32 (0, 0)) := by
        rw [← hW3]; exact blk_put (cs := #[.string x.f0, .slice A1 x.f1.length c1, .string x.f2, .slice A3 x.f3.length c3]) HN2.out 1 _ rfl
      have hV3 : Kd.R k41 41 W3 b (fun k_ => b + 1 ≤ k_) (.slice B1 x.f1.length d1) x.f1 := by
        rw [← hW3]; exact Kd.R_far HV1.out (fun k_ hk => by show k_ ≠ b; omega) _
      have hx3 : W3.cell? ⟨(ad.add (k * 4)).block, (ad.add (k * 4)).off + 3, none⟩ = some (.slice A3 x.f3.length c3) := by
        rw [← hW3, World.cell?_setCell_other _ _ _ _ (by first | (simp; done) | (simp; omega))]; exact hx3'
      have hB3 : Below b wr W3 := by rw [← hW3]; exact HB2.out.setCell (p := ⟨b, 1, none⟩) (Nat.le_refl _) _
      have hs3 : b + 1 ≤ W3.heap.size := by rw [← hW3, World.size_setCell]; have := HG2.out.size; omega
      rw [hW3]
      have HN3 := Lib.hid hN3
      have HV3 := Lib.hid hV3
      have HB3 := Lib.hid hB3
      clear hx3' hc1 hf1 hW3 hN3 hV3 hB3
      have hB3w : Below w.heap.size w W3 := Hb.out.trans (HB3.out.mono hbs)
      have HC3 := Lib.hid (Kd.C_below HG3.out.2 hB3w)
      have HL3 := HG3.out.1
      have HB3w := Lib.hid hB3w
      clear hB3w
      unfold Stop
      go_wp2_with fail
      refine (IH.out x HXM.out A3 c3 W3 HC3.out HL3).mono ?_
      rintro e W4 ⟨v3, rfl, hv3, hb4⟩
      obtain ⟨B3, d3, rfl⟩ := Kd.R_slice hv3
      have hN4 := (hb4.block b (by omega)).trans HN3.out
      have hc3 := (blk_cell hN4 3).trans rfl
      have hf3 := blk_frozen hN4 3
      have HV31 := Lib.hid (Kd.R_below HV3.out hb4)
      have HV33 := Lib.hid hv3
      have HN4 := Lib.hid hN4
      have HB4 := Lib.hid hb4
      clear hN4 hv3 hb4 hx3
      dsimp only
      go_wp2_with (first | ((with_reducible refine gate_dst (N := 31) rfl ?_); refine stop_ ?_))
      obtain ⟨W5, hW5⟩ : ∃ W5, W4.setCell ⟨b, 3, none⟩ (.slice B3 x.f3.length d3) = W5 := ⟨_, rfl⟩
      have hN5 : W5.heap[b]? = some (.cells #[.string x.f0, .slice B1 x.f1.length d1, .string x.f2, .slice B3 x.f3.length d3] 32 (0, 0)) := by
        rw [← hW5]; exact blk_put (cs := #[.string x.f0, .slice B1 x.f1.length d1, .string x.f2, .slice A3 x.f3.length c3]) HN4.out 3 _ rfl
      have hV51 : Kd.R k41 41 W5 b (fun k_ => b + 1 ≤ k_) (.slice B1 x.f1.length d1) x.f1 := by
        rw [← hW5]; exact Kd.R_far HV31.out (fun k_ hk => by show k_ ≠ b; omega) _
      have hV53 : Kd.R k32 32 W5 W3.heap.size (fun k_ => b + 1 ≤ k_) (.slice B3 x.f3.length d3) x.f3 := by
        rw [← hW5]; exact Kd.R_far (Kd.R_mono (Kd.R_bound HV33.out) (fun k_ hk => Nat.le_trans hs3 hk.2.1)) (fun k_ hk => by show k_ ≠ b; omega) _
      have hB5 : Below b wr W5 := by rw [← hW5]; exact (HB3.out.trans (HB4.out.mono (by omega))).setCell (p := ⟨b, 3, none⟩) (Nat.le_refl _) _
      have hs5 : b ≤ W5.heap.size := by rw [← hW5, World.size_setCell]; have := HB4.out.size; omega
      rw [hW5]
      clear hW5
      have h50 := (blk_cell hN5 0).trans rfl
      have h51 := (blk_cell hN5 1).trans rfl
      have h52 := (blk_cell hN5 2).trans rfl
      have h53 := (blk_cell hN5 3).trans rfl
      have hO5 : Kd.R k32 32 W5 w.heap.size (fun _ => True) u3 (l.take k) := Kd.R_below HO.out (by rw [hbe]; exact hB5)
      have HOL := Lib.hid (Kd.R_lt HO.out)
      have hM : k32.M W5 w.heap.size (fun k_ => b + 1 ≤ k_) x [.string x.f0, .slice B1 x.f1.length d1, .string x.f2, .slice B3 x.f3.length d3] :=
        k32_mkM W5 w.heap.size _ x (Kd.R_lower hV51 hbs) (Kd.R_lower hV53 (by omega))
      have HM5 := Lib.hid hM
      have HO5 := Lib.hid hO5
      have HB5 : Hid (Below w.heap.size w W5) := Lib.hid (Hb.out.trans (hB5.mono hbs))
      have hll : (l.take k).length = k := by rw [List.length_take]; omega
      clear hN5 hV51 hV53 hB5 hM hO5
      unfold Stop
      go_wp2_with (first | ((with_reducible refine gate_builtin (b := .append) (xs := #[.tmp 30, .tmp 32]) rfl ?_); at_builtin; refine Kd.R_append k32 (w0 := w) (W := W5) w.heap.size rfl (.tmp 30) (.tmp 32) 22 32 (.agg #[(.string ⟨#[]⟩), (.slice none 0 0), (.string ⟨#[]⟩), (.slice none 0 0)]) 80 rfl Tryd.underlying22 info32'' rfl (by decide) (by decide) u3 (l.take k) x [.string x.f0, .slice B1 x.f1.length d1, .string x.f2, .slice B3 x.f3.length d3] (fun _ => True) (fun k_ => b + 1 ≤ k_) rfl rfl HM5.out (fun k_ hk => ⟨trivial, fun he => by have := HOL.out k_ he.symm; omega⟩) (fun _ _ => trivial) HO5.out HB5.out HB5.out.size (by rw [hll]; omega) ?_; intro v6 W6 ho6 hb6 hg6 hat6; rw [← HTK.out] at ho6; have HO6 := Lib.hid ho6; have HB6 := Lib.hid hb6; clear ho6 hb6 hg6 hat6))
      go_roundw
      case rel => exact ⟨k + 1, by omega, by go_num, HO6, HB6⟩
      case measure => simp [intOf]; omega
    · obtain rfl : k = l.length := by omega
      have hq : ¬ (l.length : Int) < (l.length : Int) := by omega
      go_wp2
      go_ret
      exact ⟨_, rfl, by have := HO.out; rwa [List.take_length] at this, Hb.out⟩
theorem copy_any : ∀ (d : Nat) (A : Option Addr) (c : Nat) (l : List S32) (w : World) (hr : Kd.C k32 w A l.length l) (hc : l.length ≤ c) (hf : fit d l = true),
    Calls Tryd.prog 10 #[.slice A l.length c] w (CopPost w l) := by
  intro d
  induction d with
  | zero =>
    intro A c l w hr hc hf
    obtain rfl : l = [] := by
      cases l with
      | nil => rfl
      | cons _ _ => simp [fit] at hf
    exact copy_step A c [] w hr hc (by simp) (fun x hx => by cases hx) (fun x hx => by cases hx)
  | succ d ih =>
    intro A c l w hr hc hf
    obtain ⟨h1, h2⟩ := fit_elem hf
    exact copy_step A c l w hr hc h1 (fun x hx => (h2 x hx).1) (fun x hx A c w hr hc => ih A c x.f3 w hr hc (h2 x hx).2.2)
end Go.Proofs.YtdgdilbbpnlplaaDoor
