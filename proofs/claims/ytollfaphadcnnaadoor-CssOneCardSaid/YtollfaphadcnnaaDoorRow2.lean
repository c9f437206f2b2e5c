/- A row of pairs of texts, cell by cell; css.Clean's two function values. -/
import Derived.Test.YtollfaphadcnnaaDoorSafe
import Derived.RowKit3
set_option linter.unusedVariables false
set_option linter.unusedSimpArgs false
namespace Go.Proofs.YtollfaphadcnnaaDoor
open Go.RowKit Go.Shelf Plain Pr Go.Proofs.YtollfaphadcnnaaDoorW.PrintWords
instance : Inhabited S29 := ⟨z29⟩
/-- The block g holds the pairs, from its begin on; nothing of it is frozen. -/
structure Row2 (W : World) (g : Nat) (cur : List S29) : Prop where
  lt : g < W.heap.size
  c0 : ∀ j, j < cur.length → W.cell? ⟨g, j * 2, none⟩ = some (.string (cur.getD j z29).f0)
  c1 : ∀ j, j < cur.length → W.cell? ⟨g, j * 2 + 1, none⟩ = some (.string (cur.getD j z29).f1)
  fr : ∀ o, W.frozen? ⟨g, o, none⟩ = false
theorem Row2.below {W W' : World} {g : Nat} {cur : List S29} (h : Row2 W g cur) (hb : Below W.heap.size W W') : Row2 W' g cur :=
  ⟨by have := hb.size; have := h.lt; omega, fun j hj => (hb.cell (p := ⟨g, j * 2, none⟩) h.lt).trans (h.c0 j hj), fun j hj => (hb.cell (p := ⟨g, j * 2 + 1, none⟩) h.lt).trans (h.c1 j hj), fun o => (hb.frozen (p := ⟨g, o, none⟩) h.lt).trans (h.fr o)⟩
theorem Row2.set {W : World} {g : Nat} {cur : List S29} (h : Row2 W g cur) (i : Nat) (hi : i < cur.length) (a b : ByteArray) :
    Row2 ((W.setCell ⟨g, i * 2, none⟩ (.string a)).setCell ⟨g, i * 2 + 1, none⟩ (.string b)) g (cur.set i ⟨a, b⟩) := by
  have i0 : (W.cell? ⟨g, i * 2, none⟩).isSome = true := by rw [h.c0 i hi]; rfl
  have i1 : (W.cell? ⟨g, i * 2 + 1, none⟩).isSome = true := by rw [h.c1 i hi]; rfl
  have i1' : ((W.setCell ⟨g, i * 2, none⟩ (.string a)).cell? ⟨g, i * 2 + 1, none⟩).isSome = true := by
    rw [World.cell?_setCell_other _ _ _ _ (by simp)]; exact i1
  refine ⟨?_, fun j hj => ?_, fun j hj => ?_, fun o => ?_⟩
  · simpa using h.lt
  · rw [List.length_set] at hj
    rw [World.cell?_setCell_other _ _ _ _ (by first | (simp; done) | (simp; omega)), List.getD_eq_getElem?_getD, List.getElem?_set]
    by_cases hji : i = j
    · subst hji
      rw [World.cell?_setCell_same' _ _ _ i0]
      simp [hi]
    · rw [World.cell?_setCell_other _ _ _ _ (by first | (simp; done) | (simp; omega)), if_neg hji, ← List.getD_eq_getElem?_getD]
      exact h.c0 j hj
  · rw [List.length_set] at hj
    rw [List.getD_eq_getElem?_getD, List.getElem?_set]
    by_cases hji : i = j
    · subst hji
      rw [World.cell?_setCell_same' _ _ _ i1']
      simp [hi]
    · rw [World.cell?_setCell_other _ _ _ _ (by first | (simp; done) | (simp; omega)), World.cell?_setCell_other _ _ _ _ (by first | (simp; done) | (simp; omega)), if_neg hji, ← List.getD_eq_getElem?_getD]
      exact h.c1 j hj
  · rw [World.frozen?_setCell, World.frozen?_setCell]
    exact h.fr o
theorem Row2.of_R {W : World} {base : Nat} {ok : Nat → Prop} {A : Option Addr} {n c : Nat} {xs : List S29} (h : Kd.R k29 29 W base ok (.slice A n c) xs) (hn : 0 < n) :
    ∃ g, A = some ⟨g, 0, none⟩ ∧ base ≤ g ∧ Row2 W g xs ∧ n = xs.length ∧ n ≤ c ∧ c ≤ maxLen := by
  obtain ⟨h1, h2, h3⟩ := Kd.R_reads' h
  obtain ⟨inner, ho⟩ := Kd.R_own h
  rcases ho.2 with ⟨he, h0⟩ | ⟨g, cap, cur, he, hg, hb, hle, hcap, _⟩
  · omega
  · injection he with e1 e2 e3
    subst e1 e3
    have hlt : g < W.heap.size := by
      rcases Nat.lt_or_ge g W.heap.size with h | h
      · exact h
      · rw [Array.getElem?_eq_none h] at hb; cases hb
    have hat : ∀ j, j < xs.length → W.cell? ⟨g, j * 2, none⟩ = some (.string (xs.getD j z29).f0) ∧ W.cell? ⟨g, j * 2 + 1, none⟩ = some (.string (xs.getD j z29).f1) := fun j hj => by
      obtain ⟨ad, e, a0, a1⟩ := at_T29 h3 (j : Int) (by omega) (by omega)
      injection e with e
      subst e
      rw [Int.toNat_natCast] at a0 a1
      have s0 : Addr.add ⟨g, 0, none⟩ (j * 2) = ⟨g, j * 2, none⟩ := by rw [Addr.add_lit, Nat.zero_add]
      rw [s0] at a0 a1
      unfold rd_T29 at a0 a1
      rw [Int.toNat_natCast] at a0 a1
      exact ⟨a0, a1⟩
    refine ⟨g, rfl, hg, ⟨hlt, fun j hj => (hat j hj).1, fun j hj => (hat j hj).2, fun o => ?_⟩, h1, h2, hcap⟩
    unfold World.frozen?
    rw [hb]
    simp
theorem Row2.reads {W : World} {g : Nat} {cur : List S29} (h : Row2 W g cur) (m : Nat) (hm : m ≤ cur.length) (hl : cur.length ≤ maxLen) : Kd.C k29 W (some ⟨g, 0, none⟩) m (cur.take m) := by
  unfold maxLen at hl
  refine ⟨by rw [List.length_take]; omega, by omega, fun _ => ⟨_, rfl, fun j p hj => ?_⟩⟩
  have hjm : j < m := by
    have := (List.getElem?_eq_some_iff.1 hj).1
    rw [List.length_take] at this; omega
  rw [List.getElem?_take, if_pos hjm] at hj
  have hp : cur.getD j z29 = p := by rw [List.getD_eq_getElem?_getD, hj]; rfl
  refine ⟨[.string p.f0, .string p.f1], rfl, k29_mk W p, fun i u hu => ?_⟩
  have s0 : ∀ q, Addr.add ⟨g, 0, none⟩ q = ⟨g, q, none⟩ := fun q => by rw [Addr.add_lit, Nat.zero_add]
  have e0 := h.c0 j (by omega)
  have e1 := h.c1 j (by omega)
  rw [hp] at e0 e1
  match i, hu with
  | 0, hu => simp at hu; subst hu; rw [s0]; exact e0
  | 1, hu => simp at hu; subst hu; rw [s0]; exact e1
  | i + 2, hu => simp at hu
def enc2 (x : S29) : List Value := [.string x.f0, .string x.f1]
theorem Row2.cells {W : World} {g : Nat} {cur : List S29} (h : Row2 W g cur) (o : Nat) : ∀ j, j < (cur.drop o).length → ∀ i v, (enc2 (cur.drop o)[j]!)[i]? = some v → W.cell? ⟨g, o * 2 + j * 2 + i, none⟩ = some v := by
  intro j hj i v hv
  rw [List.length_drop] at hj
  have hp : (cur.drop o)[j]! = cur.getD (o + j) z29 := by
    rw [List.getD_eq_getElem?_getD, List.getElem!_eq_getElem?_getD, List.getElem?_drop, List.getElem?_eq_getElem (by omega)]
    rfl
  rw [hp] at hv
  have e0 := h.c0 (o + j) (by omega)
  have e1 := h.c1 (o + j) (by omega)
  rw [Nat.add_mul] at e0 e1
  match i, hv with
  | 0, hv => simp [enc2] at hv; subst hv; exact e0
  | 1, hv => simp [enc2] at hv; subst hv; exact e1
  | i + 2, hv => simp [enc2] at hv
def bad (x : S29) : Bool := !safeB x.f0 x.f1
theorem del_any (x : S29) (w : World) (hN : NmAt w) : Calls Tryd.prog 26 #[.agg (enc2 x).toArray] w fun e w' => e = .returned (.bool (bad x)) ∧ Below w.heap.size w w' := by
  obtain ⟨q, hq⟩ : ∃ q, safeB x.f0 x.f1 = q := ⟨_, rfl⟩
  have hb : bad x = !q := by unfold bad; rw [hq]
  rw [hb]
  have hs : ∀ W, NmAt W → Calls Tryd.prog 16 #[.string x.f0, .string x.f1] W fun e w' => e = .returned (.bool q) ∧ Below W.heap.size W w' := fun W hW => by
    have := safe_any x.f0 x.f1 W hW
    rw [hq] at this
    exact this
  have HS := Lib.hid hs
  have HN := Lib.hid hN
  clear hq hb hs hN
  unfold enc2
  go_enter Tryd.func26, Tryd.ntmps26
  go_wp2_with (first | (go_at_call 16; refine (HS.out _ (HN.out.below (below_alloc (Below.refl _ _) _))).mono ?_; rintro e w' ⟨rfl, hb⟩))
  go_ret
  exact ⟨rfl, (below_step (below_alloc (Below.refl _ _) _) hb)⟩
end Go.Proofs.YtollfaphadcnnaaDoor
