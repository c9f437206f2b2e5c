/- A text made into a row of bytes whose great letters are made small one by one: what the row holds on the way, and the text that it is made into. -/
import Derived.Lib.ConvBytes
import Derived.Laws.BytesArg
import Derived.Laws.BytesString
import Derived.Below
import Derived.Deep.Draws
set_option linter.unusedVariables false
namespace Go.Proofs.YtollfaphadcnnaaDoor
open Go.RowKit
namespace Plain
/-- A text with small letters. -/
def low (c : UInt8) : UInt8 := if 65 ≤ c ∧ c ≤ 90 then c + 32 else c
def small (l : List UInt8) : List UInt8 := l.map low
end Plain
open Plain

def lowAt (s : ByteArray) (k j : Nat) : UInt8 := if j < k then low (s.data.toList.getD j 0) else s.data.toList.getD j 0
/-- After k rounds the row in block B holds s, its first k bytes made small. -/
def LowRow (B : Nat) (s : ByteArray) (k : Nat) (W : World) : Prop :=
  B < W.heap.size ∧ ∀ j, j < s.size → W.cell? ⟨B, j, none⟩ = some (.int .u8 (lowAt s k j).toNat) ∧ W.frozen? ⟨B, j, none⟩ = false

theorem LowRow.start (w : World) (e : TypeId) (s : ByteArray) : LowRow w.heap.size s 0 (Lib.bytesWorld w e s) := by
  refine ⟨by rw [Lib.bytesWorld_size]; omega, fun j hj => ⟨?_, ?_⟩⟩
  · rw [Lib.bytesWorld_cell w e s j hj]; rfl
  · have hn := Lib.bytesWorld_at_new w e s
    have hz : s.size ≤ (Lib.bytesCells w e s).size := by simp [Lib.bytesCells]
    unfold World.frozen?
    simp only [hn]
    simp
    omega
theorem LowRow.cell {B : Nat} {s : ByteArray} {k : Nat} {W : World} (h : LowRow B s k W) (hk : k < s.size) : W.cell? ⟨B, k, none⟩ = some (.int .u8 (s[k]).toNat) ∧ W.frozen? ⟨B, k, none⟩ = false := by
  refine ⟨?_, (h.2 k hk).2⟩
  rw [(h.2 k hk).1]
  have : lowAt s k k = s[k] := by
    unfold lowAt
    rw [if_neg (by omega)]
    have : s[k] = s.data.toList[k]'(by simpa using hk) := rfl
    rw [this, List.getD_eq_getElem?_getD, List.getElem?_eq_getElem (by simpa using hk)]
    rfl
  rw [this]
theorem lowAt_succ (s : ByteArray) (k j : Nat) (hk : k < s.size) : lowAt s (k + 1) j = if j = k then low s[k] else lowAt s k j := by
  unfold lowAt
  by_cases h : j = k
  · subst h
    rw [if_pos (by omega), if_pos rfl]
    have : s[j] = s.data.toList[j]'(by simpa using hk) := rfl
    rw [this, List.getD_eq_getElem?_getD, List.getElem?_eq_getElem (by simpa using hk)]
    rfl
  · rw [if_neg h]
    by_cases h1 : j < k
    · rw [if_pos h1, if_pos (by omega)]
    · rw [if_neg h1, if_neg (by omega)]
theorem LowRow.keep {B : Nat} {s : ByteArray} {k : Nat} {W : World} (h : LowRow B s k W) (hk : k < s.size) (hl : low s[k] = s[k]) : LowRow B s (k + 1) W := by
  refine ⟨h.1, fun j hj => ⟨?_, (h.2 j hj).2⟩⟩
  rw [(h.2 j hj).1, lowAt_succ s k j hk]
  by_cases hjk : j = k
  · subst hjk
    rw [if_pos rfl, hl]
    have := (h.2 j hj).1.symm.trans (h.cell hj).1
    simpa using this
  · rw [if_neg hjk]
theorem LowRow.put {B : Nat} {s : ByteArray} {k : Nat} {W : World} (h : LowRow B s k W) (hk : k < s.size) : LowRow B s (k + 1) (W.setCell ⟨B, k, none⟩ (.int .u8 (low s[k]).toNat)) := by
  refine ⟨by simp [World.setCell]; exact h.1, fun j hj => ⟨?_, ?_⟩⟩
  · rw [lowAt_succ s k j hk]
    by_cases hjk : j = k
    · subst hjk
      rw [if_pos rfl]
      exact World.cell?_setCell_same _ _ _ (h.2 j hj).1
    · rw [if_neg hjk, World.cell?_setCell_other _ _ _ _ (by simp; omega)]
      exact (h.2 j hj).1
  · rw [World.frozen?_setCell]
    exact (h.2 j hj).2
theorem LowRow.drewN {B : Nat} {s : ByteArray} {k : Nat} {W : World} (h : LowRow B s k W) (n : Nat) : LowRow B s k (W.drewN n) := h
theorem LowRow.below {B : Nat} {s : ByteArray} {k : Nat} {W W' : World} (h : LowRow B s k W) (hb : Below W.heap.size W W') : LowRow B s k W' :=
  ⟨Nat.lt_of_lt_of_le h.1 hb.size, fun j hj => ⟨(hb.cell (p := ⟨B, j, none⟩) h.1).trans (h.2 j hj).1, (hb.frozen (p := ⟨B, j, none⟩) h.1).trans (h.2 j hj).2⟩⟩
theorem strOf_small (s : ByteArray) : strOfNums ((small s.data.toList).map fun c => (c.toNat : Int)) = ⟨(small s.data.toList).toArray⟩ := by
  unfold strOfNums
  rw [List.map_map]
  congr 2
  conv => rhs; rw [← List.map_id (small s.data.toList)]
  apply List.map_congr_left
  intro c _
  simp
theorem LowRow.string {P : Program} {B : Nat} {s : ByteArray} {W : World} (h : LowRow B s s.size W) (src dst e : TypeId) (cap : Nat) (hs : P.underlying src = some (.slice e)) (he : P.underlying e = some (.int .u8)) (hd : P.underlying dst = some .string) :
    (convert src dst (.slice (some ⟨B, 0, none⟩) s.size cap)).run P W = .ok (.string ⟨(small s.data.toList).toArray⟩) W := by
  rw [← strOf_small]
  refine run_convert_bytes_arg W src e hs he B 0 s.size cap _ (by simp [small]) (fun i hi => ?_) dst hd
  rw [Nat.zero_add, (h.2 i hi).1]
  have hi' : i < s.data.toList.length := by simpa using hi
  simp [lowAt, hi, small]
theorem below_bytes (w : World) (e : TypeId) (s : ByteArray) : Below w.heap.size w (Lib.bytesWorld w e s) :=
  ⟨rfl, rfl, rfl, by rw [Lib.bytesWorld_size]; omega, fun j hj => Lib.bytesWorld_at_old w e s j hj⟩
end Go.Proofs.YtollfaphadcnnaaDoor
