/- slices.DeleteFunc at pairs of texts, with css.Clean's own function: what is not safe falls away. -/
import Derived.Test.YtollfaphadcnnaaDoorRow2
import Derived.Lib.SliceRun
import Derived.Deep.LoopGhost
import Derived.Deep.RegionHeld3
set_option linter.unusedVariables false
set_option linter.unusedSimpArgs false
namespace Go.Proofs.YtollfaphadcnnaaDoor
open Go.RowKit Go.Shelf Plain Pr Go.Proofs.YtollfaphadcnnaaDoorW.PrintWords
theorem idx_empty (A : Option Addr) (c : Nat) (f : Value) (w : World) : Calls Tryd.prog 42 #[.slice A 0 c, f] w fun e w' => e = .returned (.int .i64 (-1)) ∧ w = w' := by
  go_enter Tryd.func42, Tryd.ntmps42
  go_wp2
  go_loop [5, 8] (fun s5 s8 => s8 = .int .i64 0) (fun _ _ => 0)
  case atStart => rfl
  case round =>
    subst hrel
    go_wp2
    go_ret
    exact ⟨rfl, rfl⟩
theorem cont_empty (A : Option Addr) (c : Nat) (f : Value) (w : World) : Calls Tryd.prog 27 #[.slice A 0 c, f] w fun e w' => e = .returned (.bool false) ∧ w = w' := by
  go_enter Tryd.func27, Tryd.ntmps27
  go_wp2_with (first | (go_at_call 42; refine (idx_empty _ _ _ _).mono ?_; rintro e w' ⟨rfl, rfl⟩))
  go_ret
  exact ⟨rfl, rfl⟩
theorem agg29 : ∀ w, (isAgg 29).run Tryd.prog w = .ok true w := Tryd.isAgg29
theorem siz29 : ∀ w, (Go.sizeOf 29).run Tryd.prog w = .ok 2 w := Tryd.sizeOf29
theorem enters26 : ∀ args w, (callFunc 26 args).run Tryd.prog w = .ok (.enter 26 args) w := enters_of Tryd.func26 (by kernel_rfl) rfl
theorem enters28 : ∀ args w, (callFunc 28 args).run Tryd.prog w = .ok (.enter 28 args) w := enters_of Tryd.func28 (by kernel_rfl) rfl
theorem pred26 (w : World) (hN : NmAt w) : PredBelow Tryd.prog 26 #[] (fun x => .agg (enc2 x).toArray) bad w := fun W x hb =>
  (del_any x W (hN.below hb)).mono fun _ _ ⟨he, h⟩ => ⟨he, below_step hb h⟩
/-- The other function of css.Clean: has a pair that one's name? -/
theorem same_any (x : S29) (g : Nat) (nm : ByteArray) (w : World) (hg : w.cell? ⟨g, 0, none⟩ = some (.string nm)) (hlt : g < w.heap.size) :
    Calls Tryd.prog 28 #[.agg (enc2 x).toArray, .pointer (some ⟨g, 0, none⟩)] w fun e w' => e = .returned (.bool (x.f0.toList == nm.toList)) ∧ Below w.heap.size w w' := by
  have hg2 : ∀ o, (w.alloc o).cell? ⟨g, 0, none⟩ = some (.string nm) := fun o => (World.cell?_alloc_lt _ _ _ (by exact hlt)).trans hg
  unfold enc2
  go_enter Tryd.func28, Tryd.ntmps28
  go_wp2
  go_ret
  exact ⟨rfl, below_alloc (Below.refl _ _) _⟩
theorem pred28 (g : Nat) (nm : ByteArray) (w : World) (hg : w.cell? ⟨g, 0, none⟩ = some (.string nm)) (hlt : g < w.heap.size) : PredBelow Tryd.prog 28 #[.pointer (some ⟨g, 0, none⟩)] (fun x => .agg (enc2 x).toArray) (fun x => x.f0.toList == nm.toList) w := fun W x hb =>
  (same_any x g nm W ((hb.cell (p := ⟨g, 0, none⟩) hlt).trans hg) (by have := hb.size; omega)).mono fun _ _ ⟨he, h⟩ => ⟨he, below_step hb h⟩
theorem run_clear2 {P : Program} (w : World) (t e ty : TypeId) (z z0 : Value) (ht : P.underlying t = some (.slice e)) (hv : ∀ w, (zeroValue e).run P w = .ok z w) (hz : z.cells = #[z0, z0]) (h1 : z0.oneCell' = true) (b o n c : Nat) (hn : 0 < n)
    (hc : ∀ j, j < n * 2 → (w.cell? ⟨b, o + j, none⟩).isSome = true) (hf : ∀ j, j < n * 2 → w.frozen? ⟨b, o + j, none⟩ = false) :
    (Builtin.clear_ #[t] ty #[.slice (some ⟨b, o, none⟩) n c]).run P w = .ok (.tuple #[]) (w.setCells b o (List.replicate (n * 2) z0)) := by
  have hzc : (Builtin.zeroCells z.cells n).toList = List.replicate (n * 2) z0 := by
    rw [hz]
    simp [Builtin.zeroCells]
    apply List.ext_getElem
    · simp
    · intro i h1 h2
      have : i % 2 = 0 ∨ i % 2 = 1 := by omega
      rcases this with h | h <;> simp [h]
  have hst := run_storeCells_cells (P := P) b o (List.replicate (n * 2) z0) 0 w (by simpa using hc) (by simpa using hf) (by intro v hv'; rw [List.eq_of_mem_replicate hv']; exact h1)
  simp only [Nat.add_zero] at hst
  obtain ⟨m, rfl⟩ : ∃ m, n = m + 1 := ⟨n - 1, by omega⟩
  simp [Builtin.clear_, run_underlying ht, hv, hzc, hst]
def keepL (l : List S29) : List S29 := l.filter fun x => safeB x.f0 x.f1
/-- What holds between two rounds: the first i places hold what is kept of the first j, the rest is as it was. -/
structure DI (xs : List S29) (g : Nat) (w0 : World) (i j : Nat) (cur : List S29) (W : World) : Prop where
  len : cur.length = xs.length
  ij : i < j
  jn : j ≤ xs.length
  lo : cur.take i = keepL (xs.take j)
  hi : cur.drop j = xs.drop j
  row : Row2 W g cur
  bel : Below w0.heap.size w0 W
theorem DI.below {xs : List S29} {g : Nat} {w0 : World} {i j : Nat} {cur : List S29} {W W' : World} (h : DI xs g w0 i j cur W) (hb : Below W.heap.size W W') : DI xs g w0 i j cur W' :=
  ⟨h.len, h.ij, h.jn, h.lo, h.hi, h.row.below hb, below_step h.bel hb⟩
theorem DI.get {xs : List S29} {g : Nat} {w0 : World} {i j : Nat} {cur : List S29} {W : World} (h : DI xs g w0 i j cur W) (hj : j < xs.length) : cur.getD j z29 = xs.getD j z29 := by
  have e := congrArg (fun l : List S29 => l.getD 0 z29) h.hi
  simpa [List.getD_eq_getElem?_getD] using e
theorem keep_step (xs : List S29) (j : Nat) (hj : j < xs.length) : keepL (xs.take (j + 1)) = keepL (xs.take j) ++ if bad (xs.getD j z29) then [] else [xs.getD j z29] := by
  unfold keepL bad
  rw [List.take_add_one, List.getElem?_eq_getElem hj, List.filter_append, List.getD_eq_getElem?_getD, List.getElem?_eq_getElem hj]
  cases hs : safeB xs[j].f0 xs[j].f1 <;> simp [hs]
theorem DI.skip {xs : List S29} {g : Nat} {w0 : World} {i j : Nat} {cur : List S29} {W : World} (h : DI xs g w0 i j cur W) (hj : j < xs.length) (hb : bad (xs.getD j z29) = true) : DI xs g w0 i (j + 1) cur W := by
  refine ⟨h.len, by have := h.ij; omega, hj, ?_, ?_, h.row, h.bel⟩
  · rw [keep_step xs j hj, hb, h.lo]; simp
  · have := congrArg List.tail h.hi
    simpa using this
theorem DI.keep {xs : List S29} {g : Nat} {w0 : World} {i j : Nat} {cur : List S29} {W W' : World} (h : DI xs g w0 i j cur W) (hj : j < xs.length) (hb : bad (xs.getD j z29) = false) (hr : Row2 W' g (cur.set i (xs.getD j z29))) (hbel : Below w0.heap.size w0 W') : DI xs g w0 (i + 1) (j + 1) (cur.set i (xs.getD j z29)) W' := by
  have hij := h.ij
  have hlen := h.len
  refine ⟨by rw [List.length_set]; exact h.len, by omega, hj, ?_, ?_, hr, hbel⟩
  · rw [keep_step xs j hj, hb, ← h.lo]
    rw [List.take_add_one, List.take_set_of_le (Nat.le_refl _), List.getElem?_set_self (by omega)]
    simp
  · rw [List.drop_set_of_lt (by omega)]
    have := congrArg List.tail h.hi
    simpa using this
end Go.Proofs.YtollfaphadcnnaaDoor
