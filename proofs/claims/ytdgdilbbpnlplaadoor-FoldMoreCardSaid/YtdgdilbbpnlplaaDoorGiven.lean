/- The functions that the print does not take, as it tells functions. -/
import Derived.Test.YtdgdilbbpnlplaaDoorMath
set_option linter.unusedVariables false
namespace Go.Proofs.YtdgdilbbpnlplaaDoor
open Go.RowKit
/-- What is asked of the world: the library's variable, and the package's own. -/
def FdW (w : World) : Prop := FdAt w
theorem FdW.below {w W : World} (h : FdW w) (hb : Below w.heap.size w W) : FdW W := FdAt.below h hb (Nat.le_refl _)
namespace Pr
open Go.RowKit Go.Shelf Go.Proofs.YtdgdilbbpnlplaaDoorW.PrintWords Go.Proofs.YtdgdilbbpnlplaaDoorW.PrintLast Go.Proofs.YtdgdilbbpnlplaaDoorW.PrintMore
def muslinlaw21_live.f : Option Bool := some true
theorem muslinlaw21_live.calls (r : Bool) (w : World) (h : muslinlaw21_live.f = some r) (hN : FdW w) :
    Calls Tryd.prog 9 #[] w fun e w' => e = .returned (.bool r) ∧ Below w.heap.size w w' := by
  obtain rfl : true = r := Option.some.inj h
  exact live_any w hN
theorem if_some {α : Type} {p : Bool} {x r : α} (h : (if p = true then some x else none) = some r) : p = true ∧ x = r := by
  cases p with
  | false => cases h
  | true => exact ⟨rfl, Option.some.inj h⟩
def muslinref14_Copy.f (k : Nat) (l : List S32) : Option (List S32) := if fit 100 l = true then some l else none
theorem muslinref14_Copy.mono : ∀ a0 k, LeO (muslinref14_Copy.f k a0) (muslinref14_Copy.f (k + 1) a0) := fun _ _ => LeO.refl _
theorem muslinref14_Copy.calls (k : Nat) (A : Option Addr) (c : Nat) (l r : List S32) (w : World) (hr : Kd.C k32 w A l.length l) (hc : l.length ≤ c) (h : muslinref14_Copy.f k l = some r) :
    Calls Tryd.prog 10 #[.slice A l.length c] w fun e w' => ∃ v, e = .returned v ∧ Kd.R k32 32 w' w.heap.size (fun _ => True) v r ∧ Below w.heap.size w w' := by
  obtain ⟨hf, rfl⟩ := if_some h
  exact copy_any 100 A c l w hr hc hf
def fold_Where.f (l : List S32) : Option (Int × Bool) := if fit 100 l = true then some (whereL l) else none
theorem fold_Where.calls (A : Option Addr) (c : Nat) (l : List S32) (r1 : Int) (r2 : Bool) (w : World) (hr : Kd.C k32 w A l.length l) (hc : l.length ≤ c) (h : fold_Where.f l = some (r1, r2)) (hN : FdW w) :
    Calls Tryd.prog 11 #[.slice A l.length c] w fun e w' => e = .returned (.tuple #[.int .i64 r1, .bool r2]) ∧ Below w.heap.size w w' := by
  obtain ⟨hf, he⟩ := if_some h
  have := where_any A c l w hr hc hN (szd_fit hf)
  rw [he] at this
  exact this
def fold_Fold.f (l : List S32) : Option (List S32) := if fit 100 l = true then some (foldL l) else none
theorem fold_Fold.calls (A : Option Addr) (c : Nat) (l r : List S32) (w : World) (hr : Kd.C k32 w A l.length l) (hc : l.length ≤ c) (h : fold_Fold.f l = some r) (hN : FdW w) :
    Calls Tryd.prog 14 #[.slice A l.length c] w fun e w' => ∃ v, e = .returned v ∧ Kd.R k32 32 w' w.heap.size (fun _ => True) v r ∧ Below w.heap.size w w' := by
  obtain ⟨hf, rfl⟩ := if_some h
  exact fold_any A c 100 l w hr hc hf hN
def fold_Open.f (l : List S32) : Option (List S32) := if fit 100 l = true then some (openL l) else none
theorem fold_Open.calls (A : Option Addr) (c : Nat) (l r : List S32) (w : World) (hr : Kd.C k32 w A l.length l) (hc : l.length ≤ c) (h : fold_Open.f l = some r) (hN : FdW w) :
    Calls Tryd.prog 16 #[.slice A l.length c] w fun e w' => ∃ v, e = .returned v ∧ Kd.R k32 32 w' w.heap.size (fun _ => True) v r ∧ Below w.heap.size w w' := by
  obtain ⟨hf, rfl⟩ := if_some h
  exact open_any A c 100 l w hr hc hf hN
def muslinref21_Open.f (l : List S32) : Option (List S32) := if fit 100 l = true then some (openL l) else none
theorem muslinref21_Open.calls (A : Option Addr) (c : Nat) (l r : List S32) (w : World) (hr : Kd.C k32 w A l.length l) (hc : l.length ≤ c) (h : muslinref21_Open.f l = some r) :
    Calls Tryd.prog 17 #[.slice A l.length c] w fun e w' => ∃ v, e = .returned v ∧ Kd.R k32 32 w' w.heap.size (fun _ => True) v r ∧ Below w.heap.size w w' := by
  obtain ⟨hf, rfl⟩ := if_some h
  exact openR_any A c 100 l w hr hc hf
end Pr
end Go.Proofs.YtdgdilbbpnlplaaDoor
