/- Encode's own function value, and its loop. -/
import Derived.Test.YtpoifmcjahjphaaG
set_option linter.unusedVariables false
set_option linter.unusedSimpArgs false
namespace Go.Proofs.Ytpoifmcjahjphaa
open Go.RowKit Go.Proofs.YtpoifmcjahjphaaW.PrintWords
def letters : List UInt8 := [65, 66, 67, 68, 69, 70, 71, 72, 73, 74, 75, 76, 77, 78, 79, 80, 81, 82, 83, 84, 85, 86, 87, 88, 89, 90, 97, 98, 99, 100, 101, 102, 103, 104, 105, 106, 107, 108, 109, 110, 111, 112, 113, 114, 115, 116, 117, 118, 119, 120, 121, 122, 48, 49, 50, 51, 52, 53, 54, 55, 56, 57, 43, 47]
def letter (n : Nat) : UInt8 := letters.getD n 0
theorem isBuilder_set {B b X : Nat} {bs : List Value} {W : World} {v u : Value} {t : Nat} (h : Lib.IsBuilder 33 5 B b bs W) (hX : W.heap[X]? = some (.cells #[v] t (0, 0))) (hb : X ≠ b) (ht : t ≠ 5) : Lib.IsBuilder 33 5 B b bs (W.setCell ⟨X, 0, none⟩ u) := by
  have go : ∀ {p : Value}, Lib.BuilderAt 33 5 B b p bs W → Lib.BuilderAt 33 5 B b p bs (W.setCell ⟨X, 0, none⟩ u) := fun h => by
    obtain ⟨hB, v', hbk, hown, hne⟩ := h
    refine ⟨hB, v', (Below.heap_setCell W ⟨X, 0, none⟩ u b (Ne.symm hb)).trans hbk, own_move hown (fun k hk => Below.heap_setCell W ⟨X, 0, none⟩ u k ?_), hne⟩
    rintro rfl
    obtain ⟨cs, hcs⟩ := own_typed hown _ hk
    rw [hcs] at hX
    injection hX with hX
    injection hX with _ hX
    exact ht hX.symm
  exact h.imp go go
set_option maxHeartbeats 2000000 in
set_option maxRecDepth 100000 in
theorem enc1_any (B b : Nat) (bs : List Value) (n : Nat) (w : World) (h : Lib.IsBuilder 33 5 B b bs w) (hlen : bs.length + 1 ≤ 140737488355328) (hBw : B ≤ w.heap.size) (hn : n < 64) :
    Calls Try.prog 18 #[.int .i64 (n : Nat), .pointer (some ⟨b, 0, none⟩)] w fun e w' => e = .returned (.tuple #[]) ∧ (Lib.BuilderAt 33 5 B b (.pointer (some ⟨b, 0, none⟩)) (bs ++ [.int .u8 ((letter n).toNat : Int)]) w' ∧ Below B w w' ∧ KeepT w w' b) := by
  have hn0 : (0 : Int) ≤ (n : Int) := by omega
  have hn1 : (n : Int) < 64 := by omega
  go_enter Try.func18, Try.ntmps18
  go_wp2_with fail
  refine (writeByte_kept B b bs _ w h hlen hBw).mono ?_
  rintro e w1 ⟨rfl, h1, h2, h3⟩
  have H1 := Lib.hid h1
  have H2 := Lib.hid h2
  have H3 := Lib.hid h3
  clear h1 h2 h3
  go_wp2
  go_end0
  have hc : letter n = (⟨letters.toArray⟩ : ByteArray)[n]'hn := by
    unfold letter
    rw [List.getD_eq_getElem?_getD, List.getElem?_eq_getElem (show n < letters.length from hn)]; rfl
  refine ⟨rfl, ?_, H2.out, H3.out⟩
  rw [hc]
  exact H1.out

theorem set_same {W : World} {X t : Nat} {u v : Value} (h : W.heap[X]? = some (.cells #[v] t (0, 0))) : (W.setCell ⟨X, 0, none⟩ u).heap[X]? = some (.cells #[u] t (0, 0)) := by
  have hlt : X < W.heap.size := (Array.getElem?_eq_some_iff.1 h).1
  have e : W.heap[X] = .cells #[v] t (0, 0) := (Array.getElem?_eq_some_iff.1 h).2
  simp [World.setCell, h, Array.setIfInBounds, hlt, Array.getElem_modify, e]
theorem boxes_set3 {h : Nat} {F : Value} {fr m A b : Int} {W : World} (A' : Int) (hB : Boxes h F fr m A b W) : Boxes h F fr m A' b (W.setCell ⟨h + 3, 0, none⟩ (.int .i64 A')) := by
  have o : ∀ k, k ≠ h + 3 → (W.setCell ⟨h + 3, 0, none⟩ (.int .i64 A')).heap[k]? = W.heap[k]? := fun k hk => Below.heap_setCell W ⟨h + 3, 0, none⟩ _ k hk
  exact ⟨(o _ (by omega)).trans hB.b0, (o _ (by omega)).trans hB.b1, (o _ (by omega)).trans hB.b2, set_same hB.b3, (o _ (by omega)).trans hB.b4⟩
theorem boxes_set4 {h : Nat} {F : Value} {fr m A b : Int} {W : World} (b' : Int) (hB : Boxes h F fr m A b W) : Boxes h F fr m A b' (W.setCell ⟨h + 4, 0, none⟩ (.int .i64 b')) := by
  have o : ∀ k, k ≠ h + 4 → (W.setCell ⟨h + 4, 0, none⟩ (.int .i64 b')).heap[k]? = W.heap[k]? := fun k hk => Below.heap_setCell W ⟨h + 4, 0, none⟩ _ k hk
  exact ⟨(o _ (by omega)).trans hB.b0, (o _ (by omega)).trans hB.b1, (o _ (by omega)).trans hB.b2, (o _ (by omega)).trans hB.b3, set_same hB.b4⟩

def encV (w0 : World) : Value := .func (.func 18) #[] #[.pointer (some ⟨w0.heap.size, 0, none⟩)]
def JE (w0 : World) (l : List Nat) (A b : Nat) (W : World) : Prop :=
  Lib.IsBuilder 33 5 w0.heap.size w0.heap.size (Lib.byteCells (l.map letter)) W ∧ Boxes (w0.heap.size + 1) (encV w0) 8 6 A b W ∧ Below w0.heap.size w0 W
theorem boxes_keep {h bk : Nat} {F : Value} {fr m A b : Int} {W W' : World} (hB : Boxes h F fr m A b W) (hk : KeepT W W' bk) (hlt : bk < h) : Boxes h F fr m A b W' :=
  ⟨(hk _ _ _ (by omega) hB.b0 (by decide)).trans hB.b0, (hk _ _ _ (by omega) hB.b1 (by decide)).trans hB.b1, (hk _ _ _ (by omega) hB.b2 (by decide)).trans hB.b2, (hk _ _ _ (by omega) hB.b3 (by decide)).trans hB.b3, (hk _ _ _ (by omega) hB.b4 (by decide)).trans hB.b4⟩
theorem add_enc (w0 : World) (l : List Nat) (all bits n : Nat) (w : World) (hJ : JE w0 l all bits w) (hbits : bits = 0 ∨ bits = 2 ∨ bits = 4) (ha : all < 65536) (hn : n < 256) (hl : l.length + 2 ≤ 140737488355328) :
    Calls Try.prog 28 #[.int .i64 (n : Nat), .pointer (some ⟨w0.heap.size + 1 + 3, 0, none⟩), .pointer (some ⟨w0.heap.size + 1, 0, none⟩), .pointer (some ⟨w0.heap.size + 1 + 4, 0, none⟩), .pointer (some ⟨w0.heap.size + 1 + 1, 0, none⟩), .pointer (some ⟨w0.heap.size + 1 + 2, 0, none⟩)] w
      fun e w' => e = .returned (.int .i64 (((bits + 8) % 6 : Nat) : Int)) ∧ JE w0 (l ++ sends 6 (nextAll 8 all n) 20 (bits + 8)) (nextAll 8 all n) ((bits + 8) % 6) w' := by
  refine gather86 (w0.heap.size + 1) _ 140737488355328 (JE w0) (fun l A b W h => h.2.1) ?_ ?_ ?_ ?_ l all bits n w hJ hbits ha hn hl
  · rintro l A b W A' b' ⟨h1, h2, h3⟩
    have h4 := boxes_set3 (A' : Int) h2
    exact ⟨isBuilder_set (isBuilder_set h1 h2.b3 (by omega) (by decide)) h4.b4 (by omega) (by decide), boxes_set4 _ h4, (h3.setCell (p := ⟨w0.heap.size + 1 + 3, 0, none⟩) (by show w0.heap.size ≤ w0.heap.size + 1 + 3; omega) _).setCell (p := ⟨w0.heap.size + 1 + 4, 0, none⟩) (by show w0.heap.size ≤ w0.heap.size + 1 + 4; omega) _⟩
  · rintro l A b W b' ⟨h1, h2, h3⟩
    exact ⟨isBuilder_set h1 h2.b4 (by omega) (by decide), boxes_set4 _ h2, h3.setCell (p := ⟨w0.heap.size + 1 + 4, 0, none⟩) (by show w0.heap.size ≤ w0.heap.size + 1 + 4; omega) _⟩
  · rintro l A b W ⟨h1, h2, h3⟩
    exact ⟨h1, ⟨h2.b0, h2.b1, h2.b2, h2.b3, h2.b4⟩, h3.drew⟩
  · rintro l A b W x ⟨h1, h2, h3⟩ hx hlm
    refine (enc1_any _ _ _ x W h1 (by simp [Lib.byteCells]; omega) h3.size hx).mono ?_
    rintro e W' ⟨rfl, g1, g2, g3⟩
    refine ⟨rfl, Or.inr ?_, boxes_keep h2 g3 (by omega), h3.trans g2⟩
    simpa [Lib.byteCells] using g1
end Go.Proofs.Ytpoifmcjahjphaa
