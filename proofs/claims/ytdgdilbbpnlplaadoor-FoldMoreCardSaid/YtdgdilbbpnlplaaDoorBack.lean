/- slices.Backward over nodes, as an iterator. -/
import Derived.Test.YtdgdilbbpnlplaaDoorAny
import Derived.Test.YtdgdilbbpnlplaaDoorRng3
import Derived.Shelf.Abstract
import Derived.Shelf.RegionOpen
import Derived.WalkKit
import Derived.OwnWalkIn
import Derived.TacticsInMore
import Derived.LoopNIn
import Derived.LoopIn
import Derived.Deep.QuietTactic
import Derived.Maps.AppendAt
import Derived.Laws.EntriesVeiled
import Derived.Sort.QuietIn
set_option linter.unusedVariables false
set_option linter.unusedSimpArgs false
namespace Go.Proofs.YtdgdilbbpnlplaaDoor
open Go.RowKit Go.Shelf Pr Range Go.Proofs.YtdgdilbbpnlplaaDoorW.PrintWords Go.Proofs.YtdgdilbbpnlplaaDoorW.PrintLast Go.Proofs.YtdgdilbbpnlplaaDoorW.PrintMore
attribute [local go_sem] Oper.semAt_some
/-- A node as it is handed on: its place, and where its rows lie. -/
abbrev Bk := Nat × Option Addr × Nat × Option Addr × Nat
def nodV (x : S32) (p : Bk) : Value := .agg #[.string x.f0, .slice p.2.1 x.f1.length p.2.2.1, .string x.f2, .slice p.2.2.2.1 x.f3.length p.2.2.2.2]
def bkV (l : List S32) (p : Bk) : Array Value := #[.int .i64 p.1, nodV (l.getD p.1 z32) p]
set_option maxHeartbeats 1000000 in
theorem back_any (A : Option Addr) (c n : Nat) (w : World) :
    Calls Tryd.prog 20 #[.slice A n c] w fun e w' => e = .returned (.func (.func 30) #[] #[.pointer (some ⟨w.heap.size, 0, none⟩)]) ∧ w' = w.alloc (.cells #[.slice A n c] 22) := by
  go_enter Tryd.func20, Tryd.ntmps20
  go_wp2
  go_ret
  exact ⟨rfl, rfl⟩
set_option maxRecDepth 100000 in
set_option maxHeartbeats 2000000 in
theorem back_iter (n X : Nat) (hn : 2 ≤ n) (A : Option Addr) (c : Nat) (l : List S32) (w0 : World) (hr : Kd.C k32 w0 A l.length l) (hlen : l.length ≤ 1000000) (w : World) (hX : Boxed w X 22 (.slice A l.length c)) :
    Iter3 Fence.wide n Tryd.prog 30 #[.pointer (some ⟨X, 0, none⟩)] (bkV l) X (fun ys => ys.length = l.length) (fun _ => True) (fun pre x => x.1 + 1 + pre.length = l.length) (fun W => Below w0.heap.size w0 W) w := by
  intro l' J Jx W hW hJ hJx hOk hY h0
  have hXW : Boxed W X 22 (.slice A l.length c) := (hW.block X hX.lt).trans hX
  have HR := Lib.hid hr
  clear hr
  have hXc := hXW.cell
  refine callsIn_of_wp Tryd.func30 rfl trivial ?_ rfl
  simp only [Tryd.ntmps30, List.size_toArray, List.length_cons, List.length_nil, Nat.reduceAdd, Nat.reduceSub, Array.replicate_succ, Array.replicate_zero, List.push_toArray, List.append_toArray, List.nil_append, List.cons_append]
  gi_wp2
  gi_loopw [3] (fun i wr => ∃ (pre : List Bk), pre.length ≤ l.length ∧ i = .int .i64 ((l.length : Int) - 1 - pre.length) ∧ Hid (Boxed wr X 22 (.slice A l.length c)) ∧ Hid (J pre wr)) (fun i _ => (intOf i + 1).toNat)
  case atStart => exact ⟨[], Nat.zero_le _, by simp, Lib.hid hXW, Lib.hid h0⟩
  case round =>
    obtain ⟨pre, hp, rfl, HX, HJ⟩ := hrel
    have hc := HX.out.cell
    by_cases hlt : pre.length < l.length
    · obtain ⟨k, hk⟩ : ∃ k : Nat, k + 1 + pre.length = l.length := ⟨l.length - 1 - pre.length, by omega⟩
      have ek : (l.length : Int) - 1 - pre.length = (k : Int) := by omega
      rw [ek]
      have hp0 : (0 : Int) ≤ (k : Int) := by omega
      have hq : (k : Int) < (l.length : Int) := by omega
      obtain ⟨ad, A1, c1, A3, c3, e, hx0, hx1, hx2, hx3, l1, g1, l3, g3⟩ := at_T32 HR.out (k : Int) hp0 hq
      clear l1 g1 l3 g3
      subst e
      have Hb := Lib.hid (hOk pre wr HJ.out)
      replace hx0 := (Hb.out.cell (World.block_lt_of_cell? w0 _ hx0)).trans hx0
      replace hx1 := (Hb.out.cell (World.block_lt_of_cell? w0 _ hx1)).trans hx1
      replace hx2 := (Hb.out.cell (World.block_lt_of_cell? w0 _ hx2)).trans hx2
      replace hx3 := (Hb.out.cell (World.block_lt_of_cell? w0 _ hx3)).trans hx3
      simp only [Int.toNat_natCast] at hx0 hx1 hx2 hx3
      have hrd : rd_T32 l (k : Int) = l.getD k z32 := by unfold rd_T32; rw [Int.toNat_natCast]
      rw [hrd] at hx0 hx1 hx2 hx3
      clear hrd
      obtain ⟨fn, tmps, assign, body, hy, hR⟩ := hY pre (k, A1, c1, A3, c3) wr HJ.out hk
      unfold bkV nodV at hy
      simp only at hy
      obtain ⟨n1, hn1⟩ : ∃ n1, n1 = (l.getD k z32).f1.length := ⟨_, rfl⟩
      obtain ⟨n3, hn3⟩ : ∃ n3, n3 = (l.getD k z32).f3.length := ⟨_, rfl⟩
      rw [← hn1] at hx1 hy
      rw [← hn3] at hx3 hy
      clear hn1 hn3
      generalize l.getD k z32 = x at *
      gi_wp2
      refine ⟨fun _ => by omega, hR.mono ?_⟩
      rintro e W3 (⟨rfl, hJ3, hk3⟩ | ⟨rfl, hJx3⟩)
      · have HX3 : Hid (Boxed W3 X 22 (.slice (some ad) l.length c)) := Lib.hid (hk3.1.trans HX.out)
        have HJ3 := Lib.hid hJ3
        have hq2 : (k : Int) - 1 = (l.length : Int) - 1 - ((pre ++ [(k, A1, c1, A3, c3)]).length : Nat) := by simp only [List.length_append, List.length_singleton]; omega
        clear hk3 hJ3
        gi_wp2
        go_roundw
        case rel => exact ⟨pre ++ [(k, A1, c1, A3, c3)], by simp only [List.length_append, List.length_singleton]; omega, by rw [← hq2]; go_num, HX3, HJ3⟩
        case measure => first | (simp [intOf]; done) | (simp [intOf]; omega)
      · gi_wp2
        refine bodyPost_ret (results_none rfl _ _ _) rfl ?_
        exact ⟨⟨_, rfl⟩, .inr ⟨_, trivial, hJx3⟩⟩
    · have e1 : pre.length = l.length := by omega
      have e2 : ¬ (0 : Int) ≤ (l.length : Int) - 1 - pre.length := by omega
      gi_wp2
      go_end0
      exact ⟨⟨_, rfl⟩, .inl ⟨pre, e1, HJ.out⟩⟩
end Go.Proofs.YtdgdilbbpnlplaaDoor
