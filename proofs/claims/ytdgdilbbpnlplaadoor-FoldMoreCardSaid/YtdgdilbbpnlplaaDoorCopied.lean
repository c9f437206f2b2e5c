/- fold.copied. -/
import Derived.Test.YtdgdilbbpnlplaaDoorAny
import Derived.Lib.SliceRun
import Derived.OrdersHeld
import Derived.Deep.RegionHeld
import Derived.Deep.QuietTactic
import Derived.RangeFuncBox
import Derived.BigQuiet
import Derived.Deep.RegionHeld3
import Derived.Deep.RegionWith
import Derived.Deep.DeepCutAuto
set_option linter.unusedVariables false
set_option linter.unusedSimpArgs false
namespace Go.Proofs.YtdgdilbbpnlplaaDoor
open Go.RowKit Go.Shelf Pr Go.Proofs.YtdgdilbbpnlplaaDoorW.PrintWords Go.Proofs.YtdgdilbbpnlplaaDoorW.PrintLast Go.Proofs.YtdgdilbbpnlplaaDoorW.PrintMore
theorem info32' : (Tryd.prog.info? 32).map (fun i => (i.zero, i.size, i.bytes)) = some (some (.agg #[(.string ⟨#[]⟩), (.slice none 0 0), (.string ⟨#[]⟩), (.slice none 0 0)]), (Kd.raw 4).sz, 80) := info32
theorem info41' : (Tryd.prog.info? 41).map (fun i => (i.zero, i.size, i.bytes)) = some (some (.agg #[(.string ⟨#[]⟩), (.string ⟨#[]⟩)]), k41.sz, 32) := info41
set_option maxHeartbeats 2000000 in
set_option maxRecDepth 100000 in
theorem cloneA_any (A : Option Addr) (c : Nat) (l : List S41) (w : World) (hr : Kd.C k41 w A l.length l) (hl : l.length ≤ 1000000) :
    Calls Tryd.prog 35 #[.slice A l.length c] w fun e w' => ∃ v, e = .returned v ∧ Kd.R k41 41 w' w.heap.size (fun _ => True) v l ∧ Below w.heap.size w w' := by
  have q : ∀ (w : World) (a : Option Addr) (n c n' c' : Nat), (binOp .eql 30 (.slice a n c) (.slice none n' c')).run Tryd.prog w = .ok (.bool a.isNone) w := fun w a n c n' c' => Lib.run_eql_slice_nil w _ _ a n c n' c' Tryd.underlying30
  have HR := Lib.hid hr
  have hu41 := Tryd.underlying41
  clear hr
  cases A with
  | none =>
    have h0 : l = [] := by
      cases l with
      | nil => rfl
      | cons x r => obtain ⟨ad, h, _⟩ := HR.out.2.2 (by simp); cases h
    subst h0
    go_enter Tryd.func35, Tryd.ntmps35
    go_wp2
    go_ret
    exact ⟨_, rfl, Kd.R_nil _ _ _ _ _, Below.refl _ _⟩
  | some ad =>
    have hsz : (k41.sz) = 2 := rfl
    go_enter Tryd.func35, Tryd.ntmps35
    go_wp2_with (first | ((with_reducible refine gate_builtin (b := .append) (xs := #[.tmp 5, .tmp 6]) rfl ?_); at_builtin; refine Kd.R_append_rows k41 (Rr := k41.K (w.alloc (.cells #[] 41))) (w0 := w) w.heap.size rfl (.tmp 5) (.tmp 6) 30 41 (.agg #[(.string ⟨#[]⟩), (.string ⟨#[]⟩)]) 32 rfl Tryd.underlying30 info41' rfl (by decide) (by decide) (.slice (some ⟨w.heap.size, 0, none⟩) 0 0) [] l (some ad) l.length c (fun _ => True) (fun _ => False) rfl rfl ?ho ?hR (fun x cs hk => by have e := k41_open hk; subst e; exact k41_mkM _ _ _ x) (fun _ hk => hk.elim) (fun _ _ => trivial) ((Below.refl _ _).alloc (Nat.le_refl _) _) (by simp) (by simp; omega) ?_; (case ho => exact ⟨fun _ _ => trivial, [], World.ownsRow_made w #[] 0 (Nat.le_refl _) (Nat.zero_le _) (by simp), Reps.none _ _⟩); (case hR => exact Kd.C_alloc HR.out _); intro v1 w1 ho hb hg hat; have HO := Lib.hid ho; have HB := Lib.hid hb; clear ho hb hg hat))
    go_ret
    exact ⟨v1, rfl, HO.out, HB.out⟩
theorem nodes_raw {A : Option Addr} {l : List S32} {w : World} (h : Kd.C k32 w A l.length l) :
    ∃ rows : List (List Value), rows.length = l.length ∧ Kd.C (Kd.raw 4) w A l.length rows ∧ ∀ (j : Nat) (x : S32) (c : List Value), l[j]? = some x → rows[j]? = some c → k32.K w x c := by
  obtain ⟨news, h1, h2, h3⟩ := Kd.reads_raw h (fun x c hk => ⟨k32.K_len hk, k32.K_one hk⟩)
  exact ⟨news, h1, h2, h3⟩
set_option maxHeartbeats 2000000 in
set_option maxRecDepth 100000 in
theorem cloneN_any (A : Option Addr) (c n : Nat) (rows : List (List Value)) (w : World) (hr : Kd.C (Kd.raw 4) w A n rows) (hl : n ≤ 1000000) :
    Calls Tryd.prog 27 #[.slice A n c] w fun e w' => ∃ v, e = .returned v ∧ (Kd.raw 4).R 32 w' w.heap.size (fun _ => True) v rows ∧ Below w.heap.size w w' := by
  have q : ∀ (w : World) (a : Option Addr) (n c n' c' : Nat), (binOp .eql 22 (.slice a n c) (.slice none n' c')).run Tryd.prog w = .ok (.bool a.isNone) w := fun w a n c n' c' => Lib.run_eql_slice_nil w _ _ a n c n' c' Tryd.underlying22
  have HR := Lib.hid hr
  have hu32 := Tryd.underlying32
  clear hr
  cases A with
  | none =>
    have h0 : n = 0 := by
      rcases Nat.eq_zero_or_pos n with h | h
      · exact h
      · obtain ⟨ad, h, _⟩ := HR.out.2.2 h; cases h
    subst h0
    have hn : rows = [] := List.eq_nil_of_length_eq_zero HR.out.1
    subst hn
    go_enter Tryd.func27, Tryd.ntmps27
    go_wp2
    go_ret
    exact ⟨_, rfl, Kd.R_nil _ _ _ _ _, Below.refl _ _⟩
  | some ad =>
    go_enter Tryd.func27, Tryd.ntmps27
    go_wp2_with (first | ((with_reducible refine gate_builtin (b := .append) (xs := #[.tmp 5, .tmp 6]) rfl ?_); at_builtin; refine Kd.R_append_rows (Kd.raw 4) (Rr := (Kd.raw 4).K (w.alloc (.cells #[] 32))) (w0 := w) w.heap.size rfl (.tmp 5) (.tmp 6) 22 32 (.agg #[(.string ⟨#[]⟩), (.slice none 0 0), (.string ⟨#[]⟩), (.slice none 0 0)]) 80 rfl Tryd.underlying22 info32' rfl (by decide) (by decide) (.slice (some ⟨w.heap.size, 0, none⟩) 0 0) [] rows (some ad) n c (fun _ => True) (fun _ => False) rfl rfl ?ho ?hR (fun x cs hk => hk) (fun _ hk => hk.elim) (fun _ _ => trivial) ((Below.refl _ _).alloc (Nat.le_refl _) _) (by simp) (by simp; omega) ?_; (case ho => exact ⟨fun _ _ => trivial, [], World.ownsRow_made w #[] 0 (Nat.le_refl _) (Nat.zero_le _) (by simp), Reps.none _ _⟩); (case hR => exact Kd.C_alloc HR.out _); intro v1 w1 ho hb hg hat; have HO := Lib.hid ho; have HB := Lib.hid hb; clear ho hb hg hat))
    go_ret
    exact ⟨v1, rfl, HO.out, HB.out⟩
def chunk (inner : List Value) (j : Nat) : List Value := (inner.drop (j * 4)).take 4
theorem chunk_get (inner : List Value) (j i : Nat) (hi : i < 4) : (chunk inner j)[i]? = inner[j * 4 + i]? := by
  unfold chunk
  rw [List.getElem?_take, if_pos hi, List.getElem?_drop]
theorem chunk_other (inner : List Value) (j j' i : Nat) (hi : i < 4) (h : j' ≠ j) (u : Value) : chunk (inner.set (j * 4 + i) u) j' = chunk inner j' := by
  apply List.ext_getElem?
  intro q
  unfold chunk
  rw [List.getElem?_take, List.getElem?_take, List.getElem?_drop, List.getElem?_drop]
  split
  · rw [List.getElem?_set_ne (by omega)]
  · rfl
theorem chunk_same (inner : List Value) (j i : Nat) (hi : i < 4) (u : Value) : chunk (inner.set (j * 4 + i) u) j = (chunk inner j).set i u := by
  unfold chunk
  rw [List.drop_set, if_neg (by omega), List.take_set, show j * 4 + i - j * 4 = i by omega]
/-- The clone's row, k of its elements with rows of their own. -/
structure Cp (w : World) (l : List S32) (v : Value) (k : Nat) (inner : List Value) (W : World) : Prop where
  own : W.ownsRow w.heap.size 32 4 v l.length inner
  don : ∀ j x, l[j]? = some x → j < k → k32.M W w.heap.size (fun b => w.heap.size ≤ b ∧ some b ≠ v.ownBlock) x (chunk inner j)
  tod : ∀ j x, l[j]? = some x → k ≤ j → k32.K w x (chunk inner j)
theorem Cp.start {w W : World} {l : List S32} {v : Value} {rows : List (List Value)} (h : (Kd.raw 4).R 32 W w.heap.size (fun _ => True) v rows) (hl : rows.length = l.length) (hk : ∀ (j : Nat) (x : S32) (c : List Value), l[j]? = some x → rows[j]? = some c → k32.K w x c) : ∃ inner, Cp w l v 0 inner W := by
  obtain ⟨_, inner, ho, hr⟩ := h
  refine ⟨inner, ⟨by rw [← hl]; exact ho, fun j x _ h => absurd h (Nat.not_lt_zero _), fun j x hx _ => ?_⟩⟩
  have hj : j < rows.length := by rw [hl]; exact (List.getElem?_eq_some_iff.1 hx).1
  have := hr.2 j _ (List.getElem?_eq_getElem hj)
  have e : (inner.drop (j * 4)).take 4 = rows[j] := this.1
  unfold chunk
  rw [e]
  exact hk j x _ hx (List.getElem?_eq_getElem hj)
theorem Cp.below {w W W1 : World} {l : List S32} {v : Value} {k : Nat} {inner : List Value} (h : Cp w l v k inner W) (hb : Below W.heap.size W W1) : Cp w l v k inner W1 :=
  ⟨own_move h.own (fun b hb' => hb.block b (h.own.lt b hb').2), fun j x hx hj => Kd.M_below (h.don j x hx hj) hb, h.tod⟩
theorem Cp.final {w W : World} {l : List S32} {v : Value} {inner : List Value} (h : Cp w l v l.length inner W) : Kd.R k32 32 W w.heap.size (fun _ => True) v l := by
  refine ⟨fun _ _ => trivial, inner, h.own, ⟨h.own.1, fun j x hx => ?_⟩⟩
  exact k32.M_mono (fun b hb => ⟨trivial, hb.2⟩) (h.don j x hx (List.getElem?_eq_some_iff.1 hx).1)
theorem own_put {W : World} {n0 g cap n : Nat} {inner : List Value} (h : W.ownsRow n0 32 4 (.slice (some ⟨g, 0, none⟩) n cap) n inner) (p : Nat) (u : Value) :
    (W.setCell ⟨g, p, none⟩ u).ownsRow n0 32 4 (.slice (some ⟨g, 0, none⟩) n cap) n (inner.set p u) := by
  obtain ⟨hlen, hv | ⟨g', cap', cur, hv, hb, hg, hc, hm, hs, htk⟩⟩ := h
  · cases hv.1
  cases hv
  refine ⟨by rw [List.length_set]; exact hlen, .inr ⟨g, cap, cur.setIfInBounds p u, rfl, hb, ?_, hc, hm, by rw [Array.size_setIfInBounds]; exact hs, ?_⟩⟩
  · obtain ⟨hlt, hk⟩ := Array.getElem?_eq_some_iff.1 hg
    show (W.heap.modify g _)[g]? = _
    rw [Array.getElem?_eq_getElem (by rw [Array.size_modify]; exact hlt), Array.getElem_modify_self, hk]
    rfl
  · rw [Array.toList_setIfInBounds, List.take_set, htk]
theorem own_cell {W : World} {n0 g cap n : Nat} {inner : List Value} (h : W.ownsRow n0 32 4 (.slice (some ⟨g, 0, none⟩) n cap) n inner) (p : Nat) (u : Value) (hu : inner[p]? = some u) :
    W.cell? ⟨g, p, none⟩ = some u ∧ W.frozen? ⟨g, p, none⟩ = false := by
  obtain ⟨hlen, hv | ⟨g', cap', cur, hv, hb, hg, hc, hm, hs, htk⟩⟩ := h
  · cases hv.1
  cases hv
  have hp := (List.getElem?_eq_some_iff.1 hu).1
  refine ⟨?_, by simp [World.frozen?, hg]⟩
  have : cur.toList[p]? = some u := by
    rw [← htk, List.getElem?_take] at hu
    split at hu
    · exact hu
    · cases hu
  simp only [World.cell?, hg]
  rw [← Array.getElem?_toList]
  exact this
/-- Two rows written into element k. -/
theorem Cp.put {w W : World} {l : List S32} {g cap k : Nat} {inner : List Value} {x : S32} {A1 A3 : Option Addr} {n1 c1 n3 c3 : Nat} {v1 v3 : Value} (h : Cp w l (.slice (some ⟨g, 0, none⟩) l.length cap) k inner W) (hx : l[k]? = some x)
    (hc : chunk inner k = [.string x.f0, .slice A1 n1 c1, .string x.f2, .slice A3 n3 c3])
    (g1 : k41.R 41 W w.heap.size (fun b => w.heap.size ≤ b ∧ b ≠ g) v1 x.f1) (g3 : k32.R 32 W w.heap.size (fun b => w.heap.size ≤ b ∧ b ≠ g) v3 x.f3) :
    Cp w l (.slice (some ⟨g, 0, none⟩) l.length cap) (k + 1) ((inner.set (k * 4 + 1) v1).set (k * 4 + 3) v3) ((W.setCell ⟨g, k * 4 + 1, none⟩ v1).setCell ⟨g, k * 4 + 3, none⟩ v3) := by
  have hob : ∀ b, some b ≠ (Value.slice (some ⟨g, 0, none⟩) l.length cap).ownBlock ↔ b ≠ g := fun b => by simp [Value.ownBlock]
  have far : ∀ {p : Nat} {u : Value} {Z : World} {y : S32} {cs : List Value}, k32.M Z w.heap.size (fun b => w.heap.size ≤ b ∧ some b ≠ (Value.slice (some ⟨g, 0, none⟩) l.length cap).ownBlock) y cs → k32.M (Z.setCell ⟨g, p, none⟩ u) w.heap.size (fun b => w.heap.size ≤ b ∧ some b ≠ (Value.slice (some ⟨g, 0, none⟩) l.length cap).ownBlock) y cs :=
    fun h => Kd.M_far h (fun b hb => (hob b).1 hb.2) _
  refine ⟨own_put (own_put h.own _ _) _ _, fun j y hy hj => ?_, fun j y hy hj => ?_⟩
  · by_cases he : j = k
    · subst he
      rw [hx] at hy; cases hy
      rw [chunk_same _ _ 3 (by omega), chunk_same _ _ 1 (by omega), hc]
      refine far (far ?_)
      exact k32_mkM W w.heap.size _ x (Kd.R_mono g1 (fun b hb => ⟨hb.1, (hob b).2 hb.2⟩)) (Kd.R_mono g3 (fun b hb => ⟨hb.1, (hob b).2 hb.2⟩))
    · rw [chunk_other _ _ _ 3 (by omega) he, chunk_other _ _ _ 1 (by omega) he]
      exact far (far (h.don j y hy (by omega)))
  · rw [chunk_other _ _ _ 3 (by omega) (by omega), chunk_other _ _ _ 1 (by omega) (by omega)]
    exact h.tod j y hy (by omega)
section
variable {P : Program} {ops : Array Oper} {md : Region.Mode} {Q : Exit → Act → World → Prop} {S : World → Prop}
theorem take_h {i : Nat} {N : Option Tmp} {oi : Oper} {v : Value} {fuel : Nat} {l : Array Bool} {a a' : Act} {w : World} (hi : ops[i]? = some oi) (hN : oi.dst = N)
    (hs : Region.noSelect ops = true) (hf : Region.free md ops l i = true) (hr : (Region.ready md ops l).contains i = true)
    (hQ : ∀ c a w, Q (.panic c) (a.put oi.dst v) w → Q (.panic c) a w) (hy : YieldsIf P ops S oi v a) (hS : S w) (ha : a.put N v = a')
    (h : wpAnyH P md ops Q S fuel (l.setIfInBounds i true) a' w) : wpAnyH P md ops Q S (fuel + 1) l a w := by
  subst ha
  subst hN
  exact wpAnyH_take hi hs hf hr hQ hy hS h
end
/-- A tree at most so deep, its rows not too long. -/
def fit : Nat → List S32 → Bool
  | 0, l => l.isEmpty
  | d + 1, l => decide (l.length ≤ 1000) && l.all (fun x => decide (x.f1.length ≤ 1000) && decide (x.f2.size ≤ 1000000) && fit d x.f3)
theorem fit_elem {d : Nat} {l : List S32} (h : fit (d + 1) l = true) : l.length ≤ 1000 ∧ ∀ x ∈ l, x.f1.length ≤ 1000 ∧ x.f2.size ≤ 1000000 ∧ fit d x.f3 = true := by
  unfold fit at h
  simp only [Bool.and_eq_true, decide_eq_true_eq, List.all_eq_true] at h
  exact ⟨h.1, fun x hx => ⟨(h.2 x hx).1.1, (h.2 x hx).1.2, (h.2 x hx).2⟩⟩
theorem fit_len {d : Nat} {l : List S32} (h : fit d l = true) : l.length ≤ 1000 := by
  cases d with
  | zero => unfold fit at h; cases l with
    | nil => simp
    | cons _ _ => simp at h
  | succ d => exact (fit_elem h).1
theorem slice_len {A : Option Addr} {n c n' c' : Nat} (h : Value.slice A n c = .slice A n' c') : n = n' := by injection h
/-- The row's elements lie in a block of its own. -/
theorem own_form {W : World} {n0 n : Nat} {A : Option Addr} {cap : Nat} {inner : List Value} (h : W.ownsRow n0 32 4 (.slice A n cap) n inner) (hp : 0 < n) : ∃ g, A = some ⟨g, 0, none⟩ ∧ n0 ≤ g ∧ g < W.heap.size := by
  obtain ⟨hlen, hv | ⟨g', cap', cur, hv, hb, hg, hc, hm, hs, htk⟩⟩ := h
  · omega
  cases hv
  exact ⟨_, rfl, hb, (Array.getElem?_eq_some_iff.1 hg).1⟩
def CopPost (w : World) (l : List S32) (e : Ending) (w' : World) : Prop := ∃ v, e = .returned v ∧ Kd.R k32 32 w' w.heap.size (fun _ => True) v l ∧ Below w.heap.size w w'
set_option maxHeartbeats 4000000 in
set_option maxRecDepth 100000 in
theorem copied_step (A : Option Addr) (c : Nat) (l : List S32) (w : World) (hr : Kd.C k32 w A l.length l) (hc : l.length ≤ c) (hlen : l.length ≤ 1000) (hat : ∀ x ∈ l, x.f1.length ≤ 1000)
    (ih : ∀ x ∈ l, ∀ (A : Option Addr) (c : Nat) (w : World), Kd.C k32 w A x.f3.length x.f3 → x.f3.length ≤ c → Calls Tryd.prog 26 #[.slice A x.f3.length c] w (CopPost w x.f3)) :
    Calls Tryd.prog 26 #[.slice A l.length c] w (CopPost w l) := by
  have hu32 := Tryd.underlying32
  obtain ⟨rows, h1, h2, h3⟩ := nodes_raw hr
  have hcl := cloneN_any A c l.length rows w h2 (by omega)
  have HCL := Lib.hid hcl
  have H1 := Lib.hid h1
  have H3 := Lib.hid h3
  have IH := Lib.hid ih
  have HAT := Lib.hid hat
  have HC := Lib.hid hr
  clear hcl hr h1 h2 h3 ih hat
  go_enter Tryd.func26, Tryd.ntmps26
  go_wp2_with fail
  refine HCL.out.mono ?_
  rintro e w1 ⟨v, rfl, hv, hb⟩
  obtain ⟨A', cap, rfl⟩ := Kd.R_slice hv
  obtain ⟨inner0, hcp⟩ := Cp.start hv H1.out H3.out
  rw [H1.out] at hcp ⊢
  have HCP := Lib.hid hcp
  have HB := Lib.hid hb
  clear hv hb hcp HCL H1 H3
  go_wp2
  go_loopw [9] (fun i wr => ∃ (k : Nat) (inner : List Value), k ≤ l.length ∧ i = .int .i64 k ∧ Hid (Cp w l (.slice A' l.length cap) k inner wr) ∧ Hid (Below w.heap.size w wr)) (fun i _ => l.length - (intOf i).toNat)
  case atStart => exact ⟨0, inner0, Nat.zero_le _, rfl, HCP, HB⟩
  case round =>
    obtain ⟨k, inner, hk, rfl, HI, Hb⟩ := hrel
    by_cases hlt : k < l.length
    · have hp : (0 : Int) ≤ (k : Int) := by omega
      have hq : (k : Int) < (l.length : Int) := by omega
      obtain ⟨g, rfl, hg0, hg1⟩ := own_form HI.out.own (by omega)
      have hx := List.getElem?_eq_getElem hlt
      obtain ⟨x, hxe⟩ : ∃ x, x = l[k] := ⟨_, rfl⟩
      rw [← hxe] at hx
      have hxm : x ∈ l := by rw [hxe]; exact List.getElem_mem _
      obtain ⟨A1, c1, A3, c3, hck, l1, g1, l3, g3⟩ := k32_open (HI.out.tod k x hx (Nat.le_refl _))
      have e0 : inner[k * 4]? = some (.string x.f0) := by have := chunk_get inner k 0 (by omega); rw [hck] at this; exact this.symm
      have e1 : inner[k * 4 + 1]? = some (.slice A1 x.f1.length c1) := by have := chunk_get inner k 1 (by omega); rw [hck] at this; exact this.symm
      have e2 : inner[k * 4 + 2]? = some (.string x.f2) := by have := chunk_get inner k 2 (by omega); rw [hck] at this; exact this.symm
      have e3 : inner[k * 4 + 3]? = some (.slice A3 x.f3.length c3) := by have := chunk_get inner k 3 (by omega); rw [hck] at this; exact this.symm
      obtain ⟨hx0, hf0⟩ := own_cell HI.out.own _ _ e0
      obtain ⟨hx1, hf1⟩ := own_cell HI.out.own _ _ e1
      obtain ⟨hx2, hf2⟩ := own_cell HI.out.own _ _ e2
      obtain ⟨hx3, hf3⟩ := own_cell HI.out.own _ _ e3
      have HX := Lib.hid hx
      have HXM := Lib.hid hxm
      have HCK := Lib.hid hck
      have HG1 := Lib.hid (And.intro l1 g1)
      have HG3 := Lib.hid (And.intro l3 g3)
      clear e0 e1 e2 e3 hx hxe hxm hck l1 g1 l3 g3
      go_wp2_with fail
      obtain ⟨W1, hW1⟩ : ∃ W1, wr.alloc (.cells #[.string x.f0, .slice A1 x.f1.length c1, .string x.f2, .slice A3 x.f3.length c3] 32) = W1 := ⟨_, rfl⟩
      have HI1 : Hid (Cp w l (.slice (some ⟨g, 0, none⟩) l.length cap) k inner W1) := Lib.hid (HI.out.below (by rw [← hW1]; exact (Below.refl _ _).alloc (Nat.le_refl _) _))
      have Hb1 : Hid (Below w.heap.size w W1) := Lib.hid (by rw [← hW1]; exact Hb.out.alloc Hb.out.size _)
      have hnew : W1.heap[wr.heap.size]? = some (.cells #[.string x.f0, .slice A1 x.f1.length c1, .string x.f2, .slice A3 x.f3.length c3] 32 (0, 0)) := by rw [← hW1]; exact World.alloc_heap_new wr _
      have hb1 : W1.cell? ⟨wr.heap.size, 1, none⟩ = some (.slice A1 x.f1.length c1) := by simp [World.cell?, hnew]
      have hb3 : W1.cell? ⟨wr.heap.size, 3, none⟩ = some (.slice A3 x.f3.length c3) := by simp [World.cell?, hnew]
      have hgl : g ≠ wr.heap.size := by omega
      have hg1' : g < W1.heap.size := by rw [← hW1]; simp; omega
      rw [hW1]
      clear hW1 hnew hx0 hx1 hx2 hx3 hf0 hf1 hf2 hf3 HI
      generalize wr.heap.size = b at *
      refine wp_region_held_drew (S := fun W' => W'.cell? ⟨b, 1, none⟩ = some (.slice A1 x.f1.length c1) ∧ W'.cell? ⟨b, 3, none⟩ = some (.slice A3 x.f3.length c3)) (by kernel_rfl) ⟨hb1, hb3⟩ (fun hHeld => ?_)
      refine take_h (i := 0) (N := some 14) (v := ?_) (a' := ?_) rfl rfl (by kernel_rfl) (by kernel_rfl) (by kernel_rfl) (fun _ _ _ h => h) (Or.inl ⟨by rfl, ?_⟩) (by with_reducible assumption) ?_ ?_
      rotate_left 2
      · intro w' hSw
        try dsimp only at hSw
        go_simp
        try with_reducible rfl
      · simp only [Act.put, List.setIfInBounds_toArray, List.set_cons_zero, List.set_cons_succ]
        rfl
      refine take_h (i := 1) (N := some 15) (v := ?_) (a' := ?_) rfl rfl (by kernel_rfl) (by kernel_rfl) (by kernel_rfl) (fun _ _ _ h => h) (Or.inl ⟨by rfl, ?_⟩) (by with_reducible assumption) ?_ ?_
      rotate_left 2
      · intro w' hSw
        try dsimp only at hSw
        go_simp
        try with_reducible rfl
      · simp only [Act.put, List.setIfInBounds_toArray, List.set_cons_zero, List.set_cons_succ]
        rfl
      refine take_h (i := 2) (N := some 16) (v := ?_) (a' := ?_) rfl rfl (by kernel_rfl) (by kernel_rfl) (by kernel_rfl) (fun _ _ _ h => h) (Or.inl ⟨by rfl, ?_⟩) (by with_reducible assumption) ?_ ?_
      rotate_left 2
      · intro w' hSw
        try dsimp only at hSw
        go_simp
        try with_reducible rfl
      · simp only [Act.put, List.setIfInBounds_toArray, List.set_cons_zero, List.set_cons_succ]
        rfl
      refine take_h (i := 3) (N := some 17) (v := ?_) (a' := ?_) rfl rfl (by kernel_rfl) (by kernel_rfl) (by kernel_rfl) (fun _ _ _ h => h) (Or.inl ⟨by rfl, ?_⟩) (by with_reducible assumption) ?_ ?_
      rotate_left 2
      · intro w' hSw
        try dsimp only at hSw
        go_simp
        try with_reducible rfl
      · simp only [Act.put, List.setIfInBounds_toArray, List.set_cons_zero, List.set_cons_succ]
        rfl
      refine take_h (i := 4) (N := some 18) (v := ?_) (a' := ?_) rfl rfl (by kernel_rfl) (by kernel_rfl) (by kernel_rfl) (fun _ _ _ h => h) (Or.inl ⟨by rfl, ?_⟩) (by with_reducible assumption) ?_ ?_
      rotate_left 2
      · intro w' hSw
        try dsimp only at hSw
        go_simp
        try with_reducible rfl
      · simp only [Act.put, List.setIfInBounds_toArray, List.set_cons_zero, List.set_cons_succ]
        rfl
      refine take_h (i := 5) (N := some 19) (v := ?_) (a' := ?_) rfl rfl (by kernel_rfl) (by kernel_rfl) (by kernel_rfl) (fun _ _ _ h => h) (Or.inl ⟨by rfl, ?_⟩) (by with_reducible assumption) ?_ ?_
      rotate_left 2
      · intro w' hSw
        try dsimp only at hSw
        go_simp
        try with_reducible rfl
      · simp only [Act.put, List.setIfInBounds_toArray, List.set_cons_zero, List.set_cons_succ]
        rfl
      refine take_h (i := 7) (N := some 21) (v := ?_) (a' := ?_) rfl rfl (by kernel_rfl) (by kernel_rfl) (by kernel_rfl) (fun _ _ _ h => h) (Or.inl ⟨by rfl, ?_⟩) (by with_reducible assumption) ?_ ?_
      rotate_left 2
      · intro w' hSw
        try dsimp only at hSw
        go_simp
        try with_reducible rfl
      · simp only [Act.put, List.setIfInBounds_toArray, List.set_cons_zero, List.set_cons_succ]
        rfl
      refine take_h (i := 8) (N := some 22) (v := ?_) (a' := ?_) rfl rfl (by kernel_rfl) (by kernel_rfl) (by kernel_rfl) (fun _ _ _ h => h) (Or.inl ⟨by rfl, ?_⟩) (by with_reducible assumption) ?_ ?_
      rotate_left 2
      · intro w' hSw
        try dsimp only at hSw
        go_simp
        try with_reducible rfl
      · simp only [Act.put, List.setIfInBounds_toArray, List.set_cons_zero, List.set_cons_succ]
        rfl
      refine wpAnyH_ready (rs := [6]) (by kernel_rfl) (by simp) (AllReadyH.cons rfl (fun K hK => ?_) AllReadyH.nil)
      go_simp
      have hB1 : Below w.heap.size w W1.drew := Hb1.out.drew
      refine (cloneA_any A1 c1 x.f1 W1.drew (Kd.C_below HG1.out.2 hB1) (by have := HAT.out x HXM.out; omega)).mono ?_
      rintro e W2 ⟨v1, rfl, hv1, hb2⟩
      obtain ⟨B1, d1, rfl⟩ := Kd.R_slice hv1
      have k2 := And.intro ((hb2.cell (p := ⟨b, 1, none⟩) (World.block_lt_of_cell? _ _ hHeld.1)).trans hHeld.1) ((hb2.cell (p := ⟨b, 3, none⟩) (World.block_lt_of_cell? _ _ hHeld.2)).trans hHeld.2)
      have hB2 : Below w.heap.size w W2 := hB1.trans (hb2.mono hB1.size)
      have HB2 := Lib.hid hB2
      have HI2 : Hid (Cp w l (.slice (some ⟨g, 0, none⟩) l.length cap) k inner W2) := Lib.hid ((HI1.out.below (Below.refl _ _).drew).below hb2)
      have hs1 : g < W1.drew.heap.size := hg1'
      have HV1 : Hid (k41.R 41 W2 w.heap.size (fun b => w.heap.size ≤ b ∧ b ≠ g) (.slice B1 x.f1.length d1) x.f1) := Lib.hid (Kd.R_lower (Kd.R_mono (Kd.R_bound hv1) (fun b hb => ⟨Nat.le_trans hB1.size hb.2.1, by have := hb.2.1; omega⟩)) hB1.size)
      clear hb2 hv1 hB1 hB2 hs1
      dsimp only
      refine hK.out _ _ k2 (fun hHeld => ?_)
      clear hK K k2
      try simp only [Act.put, List.setIfInBounds_toArray, List.set_cons_zero, List.set_cons_succ]
      refine wpAnyH_ready (rs := [9]) (by kernel_rfl) (by simp) (AllReadyH.cons rfl (fun K hK => ?_) AllReadyH.nil)
      go_simp
      refine (IH.out x HXM.out A3 c3 W2 (Kd.C_below HG3.out.2 HB2.out) HG3.out.1).mono ?_
      rintro e W3 ⟨v3, rfl, hv3, hb3⟩
      obtain ⟨B3, d3, rfl⟩ := Kd.R_slice hv3
      have k3 := And.intro ((hb3.cell (p := ⟨b, 1, none⟩) (World.block_lt_of_cell? _ _ hHeld.1)).trans hHeld.1) ((hb3.cell (p := ⟨b, 3, none⟩) (World.block_lt_of_cell? _ _ hHeld.2)).trans hHeld.2)
      have HB3 : Hid (Below w.heap.size w W3) := Lib.hid (HB2.out.trans (hb3.mono HB2.out.size))
      have HI3 : Hid (Cp w l (.slice (some ⟨g, 0, none⟩) l.length cap) k inner W3) := Lib.hid (HI2.out.below hb3)
      have HV3 : Hid (k32.R 32 W3 w.heap.size (fun b => w.heap.size ≤ b ∧ b ≠ g) (.slice B3 x.f3.length d3) x.f3) := Lib.hid (Kd.R_lower (Kd.R_mono (Kd.R_bound hv3) (fun b hb => ⟨Nat.le_trans HB2.out.size hb.2.1, by have := hb.2.1; have := (HI2.out.own.lt g rfl).2; omega⟩)) HB2.out.size)
      have HV13 : Hid (k41.R 41 W3 w.heap.size (fun b => w.heap.size ≤ b ∧ b ≠ g) (.slice B1 x.f1.length d1) x.f1) := Lib.hid (Kd.R_below HV1.out hb3)
      clear hb3 hv3 HB2 HI2 HV1
      dsimp only
      refine hK.out _ _ k3 (fun hHeld => ?_)
      clear hK K k3
      try simp only [Act.put, List.setIfInBounds_toArray, List.set_cons_zero, List.set_cons_succ]
      have e1 : inner[k * 4 + 1]? = some (.slice A1 x.f1.length c1) := by have := chunk_get inner k 1 (by omega); rw [HCK.out] at this; exact this.symm
      have e3 : inner[k * 4 + 3]? = some (.slice A3 x.f3.length c3) := by have := chunk_get inner k 3 (by omega); rw [HCK.out] at this; exact this.symm
      obtain ⟨hx1, hf1⟩ := own_cell HI3.out.own _ _ e1
      obtain ⟨hx3, hf3⟩ := own_cell HI3.out.own _ _ e3
      refine take_h (i := 10) (N := some 24) (v := ?_) (a' := ?_) rfl rfl (by kernel_rfl) (by kernel_rfl) (by kernel_rfl) (fun _ _ _ h => h) (Or.inl ⟨by rfl, ?_⟩) (by with_reducible assumption) ?_ ?_
      rotate_left 2
      · intro w' hSw
        try dsimp only at hSw
        go_simp
        try with_reducible rfl
      · simp only [Act.put, List.setIfInBounds_toArray, List.set_cons_zero, List.set_cons_succ]
        rfl
      refine take_h (i := 11) (N := some 25) (v := ?_) (a' := ?_) rfl rfl (by kernel_rfl) (by kernel_rfl) (by kernel_rfl) (fun _ _ _ h => h) (Or.inl ⟨by rfl, ?_⟩) (by with_reducible assumption) ?_ ?_
      rotate_left 2
      · intro w' hSw
        try dsimp only at hSw
        go_simp
        try with_reducible rfl
      · simp only [Act.put, List.setIfInBounds_toArray, List.set_cons_zero, List.set_cons_succ]
        rfl
      refine wpAnyH_ready (rs := [12]) (by kernel_rfl) (by simp) (AllReadyH.cons rfl (fun K hK => ?_) AllReadyH.nil)
      go_simp
      refine hK.out _ _ ⟨?_, ?_⟩ (fun hHeld => ?_)
      · rw [World.cell?_setCell_other _ _ _ _ (by first | (simp; done) | (simp; omega))]; exact hHeld.1
      · rw [World.cell?_setCell_other _ _ _ _ (by first | (simp; done) | (simp; omega))]; exact hHeld.2
      clear hK K
      try simp only [Act.put, List.setIfInBounds_toArray, List.set_cons_zero, List.set_cons_succ]
      have hx3' : (W3.setCell ⟨g, k * 4 + 1, none⟩ (.slice B1 x.f1.length d1)).cell? ⟨g, k * 4 + 3, none⟩ = some (.slice A3 x.f3.length c3) := by
        rw [World.cell?_setCell_other _ _ _ _ (by simp)]; exact hx3
      have hf3' : (W3.setCell ⟨g, k * 4 + 1, none⟩ (.slice B1 x.f1.length d1)).frozen? ⟨g, k * 4 + 3, none⟩ = false := by rw [World.frozen?_setCell]; exact hf3
      refine take_h (i := 13) (N := some 26) (v := ?_) (a' := ?_) rfl rfl (by kernel_rfl) (by kernel_rfl) (by kernel_rfl) (fun _ _ _ h => h) (Or.inl ⟨by rfl, ?_⟩) (by with_reducible assumption) ?_ ?_
      rotate_left 2
      · intro w' hSw
        try dsimp only at hSw
        go_simp
        try with_reducible rfl
      · simp only [Act.put, List.setIfInBounds_toArray, List.set_cons_zero, List.set_cons_succ]
        rfl
      refine take_h (i := 14) (N := some 27) (v := ?_) (a' := ?_) rfl rfl (by kernel_rfl) (by kernel_rfl) (by kernel_rfl) (fun _ _ _ h => h) (Or.inl ⟨by rfl, ?_⟩) (by with_reducible assumption) ?_ ?_
      rotate_left 2
      · intro w' hSw
        try dsimp only at hSw
        go_simp
        try with_reducible rfl
      · simp only [Act.put, List.setIfInBounds_toArray, List.set_cons_zero, List.set_cons_succ]
        rfl
      refine wpAnyH_ready (rs := [15]) (by kernel_rfl) (by simp) (AllReadyH.cons rfl (fun K hK => ?_) AllReadyH.nil)
      go_simp
      refine hK.out _ _ ⟨?_, ?_⟩ (fun _ => ?_)
      · rw [World.cell?_setCell_other _ _ _ _ (by first | (simp; done) | (simp; omega))]; exact hHeld.1
      · rw [World.cell?_setCell_other _ _ _ _ (by first | (simp; done) | (simp; omega))]; exact hHeld.2
      clear hK K hHeld
      refine wpAnyH_done (by kernel_rfl) ?_ _
      have HI4 := Lib.hid (HI3.out.put HX.out HCK.out HV13.out HV3.out)
      have HB4 : Hid (Below w.heap.size w ((W3.setCell ⟨g, k * 4 + 1, none⟩ (.slice B1 x.f1.length d1)).setCell ⟨g, k * 4 + 3, none⟩ (.slice B3 x.f3.length d3))) := Lib.hid ((HB3.out.setCell (p := ⟨g, k * 4 + 1, none⟩) hg0 _).setCell (p := ⟨g, k * 4 + 3, none⟩) hg0 _)
      clear hx1 hx3 hf1 hf3 hx3' hf3' HI3 HB3 HV13 HV3
      generalize (W3.setCell ⟨g, k * 4 + 1, none⟩ (.slice B1 x.f1.length d1)).setCell ⟨g, k * 4 + 3, none⟩ (.slice B3 x.f3.length d3) = W4 at *
      go_wp2
      go_roundw
      case rel => exact ⟨k + 1, _, by omega, by go_num, HI4, HB4⟩
      case measure => simp [intOf]; omega
    · obtain rfl : k = l.length := by omega
      have hq : ¬ (l.length : Int) < (l.length : Int) := by omega
      go_wp2
      go_ret
      exact ⟨_, rfl, HI.out.final, Hb.out⟩
theorem copied_any : ∀ (d : Nat) (A : Option Addr) (c : Nat) (l : List S32) (w : World) (hr : Kd.C k32 w A l.length l) (hc : l.length ≤ c) (hf : fit d l = true),
    Calls Tryd.prog 26 #[.slice A l.length c] w (CopPost w l) := by
  intro d
  induction d with
  | zero =>
    intro A c l w hr hc hf
    obtain rfl : l = [] := by
      cases l with
      | nil => rfl
      | cons _ _ => simp [fit] at hf
    exact copied_step A c [] w hr hc (by simp) (fun x hx => by cases hx) (fun x hx => by cases hx)
  | succ d ih =>
    intro A c l w hr hc hf
    obtain ⟨h1, h2⟩ := fit_elem hf
    exact copied_step A c l w hr hc h1 (fun x hx => (h2 x hx).1) (fun x hx A c w hr hc => ih A c x.f3 w hr hc (h2 x hx).2.2)
end Go.Proofs.YtdgdilbbpnlplaaDoor
