/- What a slice of structs among the arguments reads as: the kinds of the printed walks. -/
import Derived.Test.YtdgdilbbpnlplaaDoorPrx0
import Derived.ChangeArms
import Derived.ChangeSame
import Derived.Carry
import Derived.DataElems
set_option linter.unusedVariables false
set_option linter.unusedSimpArgs false
namespace Go.Proofs.YtdgdilbbpnlplaaDoor.Open
open Go Go.RowKit Go.Proofs.YtdgdilbbpnlplaaDoor.Pr Go.Proofs.YtdgdilbbpnlplaaDoorW.PrintWords Go.Proofs.YtdgdilbbpnlplaaDoorW.PrintLast

theorem list_of {α : Type} (p : Nat → α → Prop) : ∀ n, (∀ i, i < n → ∃ x, p i x) → ∃ l : List α, l.length = n ∧ ∀ i x, l[i]? = some x → p i x
  | 0, _ => ⟨[], rfl, fun i x h => by simp at h⟩
  | n + 1, h => by
    obtain ⟨l, hl, hp⟩ := list_of p n (fun i hi => h i (by omega))
    obtain ⟨x, hx⟩ := h n (by omega)
    refine ⟨l ++ [x], by simp [hl], fun i y hy => ?_⟩
    rcases Nat.lt_or_ge i n with hi | hi
    · rw [List.getElem?_append_left (by omega)] at hy
      exact hp i y hy
    · rw [List.getElem?_append_right (by omega), hl] at hy
      obtain ⟨h1, h2⟩ := List.getElem?_eq_some_iff.1 hy
      have : i = n := by simp at h1; omega
      subst this
      simp at h2
      subst h2
      exact hx
theorem cells_get {w : World} {base : Nat} {a : Addr} {n : Nat} {cs : List Value} (h : w.cells? base a n = some cs) : cs.length = n ∧ ∀ j u, cs[j]? = some u → w.cell? (a.add j) = some u := by
  unfold World.cells? at h
  split at h
  · have hl := mapM_some_length h
    rw [List.length_range] at hl
    refine ⟨hl, fun j u hu => ?_⟩
    have hj : j < n := by rw [← hl]; exact (List.getElem?_eq_some_iff.1 hu).1
    have := mapM_some_get h j j (by simp [hj])
    rw [this]; exact hu
  · cases h
section
variable {H : Type} {enc : TypeId × Value → H} {P : Program} {w : World} {sp : Nat → Bool} {held : Bool}
/-- What reads as data at a type (in so many steps at most) is of a kind. -/
def Tells {α : Type} (enc : TypeId × Value → H) (P : Program) (w : World) (sp : Nat → Bool) (held : Bool) (n : Nat) (t : TypeId) (d : Kd α) : Prop :=
  ∀ m, m ≤ n → ∀ cs x, DataW.trod enc P w 0 sp held m t cs = some x → ∃ a, d.K w a cs
theorem tells_string (n : Nat) {t : TypeId} (ht : P.underlying t = some .string) : Tells enc P w sp held n t Kd.string := by
  intro m _ cs x h
  obtain ⟨s, rfl, _⟩ := DataW.trod_string ht h
  exact ⟨s, rfl⟩
theorem tells_slice {α : Type} {n : Nat} {t e : TypeId} {e' : Nat} {d : Kd α} (ht : P.underlying t = some (.slice e)) (hc : P.cellsOf e = d.sz) (hd : Tells enc P w sp held n e d) : Tells enc P w sp held (n + 1) t (Kd.slice e' d) := by
  intro m hm cs x h
  rcases DataW.trod_slice ht h with ⟨rfl, _⟩ | ⟨a, len, cap, elems, rest, k, rfl, rfl, _, _, hl, hmx, hlen, hel, _⟩
  · exact ⟨[], none, 0, rfl, Nat.le_refl _, rfl, by simp, fun h => absurd h (by simp)⟩
  · obtain ⟨l, hll, hp⟩ := list_of (fun i y => ∃ c, w.cells? 0 (a.add (i * P.cellsOf e)) (P.cellsOf e) = some c ∧ d.K w y c) len (fun i hi => by
      have h1 := hel i hi
      rw [List.getElem?_eq_getElem (by omega : i < elems.length), Option.bind_eq_some_iff] at h1
      obtain ⟨c, hc1, hc2⟩ := h1
      obtain ⟨y, hy⟩ := hd k (by omega) c _ hc2
      exact ⟨y, c, hc1, hy⟩)
    subst hll
    refine ⟨l, some a, cap, rfl, hl, rfl, by simp only [maxLen] at hmx; omega, fun _ => ⟨a, rfl, fun j y hy => ?_⟩⟩
    obtain ⟨c, hc1, hy1⟩ := hp j y hy
    obtain ⟨h2, h3⟩ := cells_get hc1
    refine ⟨c, by rw [h2, hc], hy1, fun i u hu => ?_⟩
    have := h3 i u hu
    rw [← hc]
    rw [← Addr.add_add]
    exact this
theorem no_zero {t : TypeId} {cs : List Value} {x : DataW H × List MemPlace} (h : DataW.trod enc P w 0 sp held 0 t cs = some x) : False := by simp [DataW.trod] at h
end
section
variable {H : Type} {enc : TypeId × Value → H} {w : World} {sp : Nat → Bool} {held : Bool}
theorem tells41 : ∀ n, Tells enc Tryd.prog w sp held n 41 k41 := by
  intro n
  induction n with
  | zero =>
    intro m hm cs x h
    obtain rfl : m = 0 := by omega
    exact (no_zero h).elim
  | succ n ih =>
    intro m hm cs x h
    obtain ⟨xs, m', rfl, rfl, hl, hlen, hf⟩ := DataW.trod_struct Tryd.underlying41 h
    have hl2 : cs.length = 2 := hl.trans (by kernel_rfl)
    obtain ⟨c0, c1, rfl⟩ : ∃ c0 c1, cs = [c0, c1] := by
      match cs, hl2 with
      | [c0, c1], _ => exact ⟨c0, c1, rfl⟩
    obtain ⟨y0, g0⟩ : ∃ y, xs[0]? = some y := ⟨_, List.getElem?_eq_getElem (by rw [hlen]; decide)⟩
    have f0 := hf 0 _ rfl
    rw [g0] at f0
    obtain ⟨a0, q0⟩ := tells_string (enc := enc) (w := w) (sp := sp) (held := held) n Tryd.underlying9 m' (by omega) [c0] y0 f0
    injection q0 with q0 _
    subst q0
    obtain ⟨y1, g1⟩ : ∃ y, xs[1]? = some y := ⟨_, List.getElem?_eq_getElem (by rw [hlen]; decide)⟩
    have f1 := hf 1 _ rfl
    rw [g1] at f1
    obtain ⟨a1, q1⟩ := tells_string (enc := enc) (w := w) (sp := sp) (held := held) n Tryd.underlying9 m' (by omega) [c1] y1 f1
    injection q1 with q1 _
    subst q1
    exact ⟨⟨a0, a1⟩, k41_mk w _ ⟩
theorem tells32 : ∀ n, Tells enc Tryd.prog w sp held n 32 k32 := by
  intro n
  induction n with
  | zero =>
    intro m hm cs x h
    obtain rfl : m = 0 := by omega
    exact (no_zero h).elim
  | succ n ih =>
    intro m hm cs x h
    obtain ⟨xs, m', rfl, rfl, hl, hlen, hf⟩ := DataW.trod_struct Tryd.underlying32 h
    have hl2 : cs.length = 4 := hl.trans (by kernel_rfl)
    obtain ⟨c0, c1, c2, c3, rfl⟩ : ∃ c0 c1 c2 c3, cs = [c0, c1, c2, c3] := by
      match cs, hl2 with
      | [c0, c1, c2, c3], _ => exact ⟨c0, c1, c2, c3, rfl⟩
    obtain ⟨y0, g0⟩ : ∃ y, xs[0]? = some y := ⟨_, List.getElem?_eq_getElem (by rw [hlen]; decide)⟩
    have f0 := hf 0 _ rfl
    rw [g0] at f0
    obtain ⟨a0, q0⟩ := tells_string (enc := enc) (w := w) (sp := sp) (held := held) n Tryd.underlying9 m' (by omega) [c0] y0 f0
    injection q0 with q0 _
    subst q0
    obtain ⟨y1, g1⟩ : ∃ y, xs[1]? = some y := ⟨_, List.getElem?_eq_getElem (by rw [hlen]; decide)⟩
    have f1 := hf 1 _ rfl
    rw [g1] at f1
    obtain ⟨a1, A1, k1, q1, l1, C1⟩ := tells_slice (e' := 41) Tryd.underlying30 (by kernel_rfl) (tells41 (enc := enc) (w := w) (sp := sp) (held := held) n) m' (by omega) [c1] y1 f1
    injection q1 with q1 _
    subst q1
    obtain ⟨y2, g2⟩ : ∃ y, xs[2]? = some y := ⟨_, List.getElem?_eq_getElem (by rw [hlen]; decide)⟩
    have f2 := hf 2 _ rfl
    rw [g2] at f2
    obtain ⟨a2, q2⟩ := tells_string (enc := enc) (w := w) (sp := sp) (held := held) n Tryd.underlying9 m' (by omega) [c2] y2 f2
    injection q2 with q2 _
    subst q2
    obtain ⟨y3, g3⟩ : ∃ y, xs[3]? = some y := ⟨_, List.getElem?_eq_getElem (by rw [hlen]; decide)⟩
    have f3 := hf 3 _ rfl
    rw [g3] at f3
    obtain ⟨a3, A3, k3, q3, l3, C3⟩ := tells_slice (e' := 32) Tryd.underlying22 (by kernel_rfl) ih m' (by omega) [c3] y3 f3
    injection q3 with q3 _
    subst q3
    exact ⟨⟨a0, a1, a2, a3⟩, k32_mk w _ l1 C1 l3 C3⟩
theorem open22 {d : DataW H} {p : List MemPlace} {A : Option Addr} {len cap : Nat} (h : DataW.Trod enc Tryd.prog w 0 sp held 22 (.slice A len cap) d p) : ∃ l : List S32, l.length = len ∧ len ≤ cap ∧ Kd.C k32 w A l.length l := by
  obtain ⟨n, hn⟩ := h
  obtain ⟨l, A', c', e, hl, hC⟩ := tells_slice (e' := 32) Tryd.underlying22 (by kernel_rfl) (tells32 (enc := enc) (w := w) (sp := sp) (held := held) n) n (by omega) _ _ hn
  have e2 : [Value.slice A len cap] = [.slice A' l.length c'] := by simpa [Value.cells] using e
  injection e2 with e2 _
  injection e2 with e2 e3 e4
  subst e2 e3 e4
  exact ⟨l, rfl, hl, hC⟩
end
end Go.Proofs.YtdgdilbbpnlplaaDoor.Open
