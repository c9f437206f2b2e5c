/- The functions that are proved by hand, in the form in which the printed texts call them. -/
import Derived.Test.YtomfdejamngkjaaDoorHdw
set_option linter.unusedVariables false
set_option linter.unusedSimpArgs false
namespace Go.Proofs.YtomfdejamngkjaaDoor.Pr
open Go.RowKit Plain Go.Proofs.YtomfdejamngkjaaDoorW.PrintWords Go.Proofs.YtomfdejamngkjaaDoorW.PrintLast Go.Proofs.YtomfdejamngkjaaDoorW.PrintMore

def bytesOf (l : List (List UInt8)) : List ByteArray := l.map fun x => ⟨x.toArray⟩
def lines_Cut.f (a0 : ByteArray) : Option (List ByteArray) := if a0.size ≤ 8796093022207 then some (bytesOf (cutL a0.data.toList)) else none
theorem lines_Cut.calls (a0 : ByteArray) (r : List ByteArray) (w : World) (h : lines_Cut.f a0 = some r) :
    Calls Tryd.prog 11 #[.string a0] w fun e w' => ∃ v0_ : Value, e = .returned v0_ ∧ Kd.R Kd.string 9 w' w.heap.size (fun _ => True) v0_ r ∧ Below w.heap.size w w' := by
  unfold lines_Cut.f at h
  split at h
  · cases h
    refine (cutLines_any a0 w (by assumption)).mono ?_
    rintro e w' ⟨v, rfl, ho, hb⟩
    have e1 : (bytesOf (cutL a0.data.toList)).length = (linesL a0.data.toList).length := by simp [bytesOf, cutL]
    have e2 : encs (fun x : ByteArray => Value.string x) (bytesOf (cutL a0.data.toList)) = (linesL a0.data.toList).map textV := by simp [encs, bytesOf, cutL, textV]
    refine ⟨v, rfl, Kd.R_of_own ?_ (fun _ _ => trivial), hb⟩
    rw [e1, e2]
    exact ho
  · cases h
theorem k29_R {w : World} {base : Nat} {v : Value} {l : List S29} (h : w.ownsRow base 29 2 v l.length (cells29 l)) : Kd.R k29 29 w base (fun _ => True) v l := by
  refine ⟨fun _ _ => trivial, cells29 l, h, ?_⟩
  clear h
  induction l with
  | nil => exact Reps.none _ _
  | cons x l ih => exact Reps.c2 (k29_mkM _ _ _ x) ih
def lines_Head.f (a0 : ByteArray) : Option (List S29 × ByteArray) := if a0.size ≤ 1000000 then some ((headL a0.data.toList).1, ⟨(headL a0.data.toList).2.toArray⟩) else none
theorem lines_Head.calls (a0 : ByteArray) (r1 : List S29) (r2 : ByteArray) (w : World) (h : lines_Head.f a0 = some (r1, r2)) :
    Calls Tryd.prog 15 #[.string a0] w fun e w' => ∃ v0_ : Value, e = .returned (.tuple #[v0_, .string r2]) ∧ Kd.R k29 29 w' w.heap.size (fun _ => True) v0_ r1 ∧ Below w.heap.size w w' := by
  unfold lines_Head.f at h
  split at h
  · cases h
    refine (head_any a0 w (by assumption)).mono ?_
    rintro e w' ⟨v, rfl, ho, hb⟩
    exact ⟨v, rfl, k29_R ho, hb⟩
  · cases h
def getOk (l : List S29) (nm : ByteArray) : Bool := decide (l.length ≤ 1000000 ∧ nm.size ≤ 140737488351232) && l.all fun x => decide (x.f0.size ≤ 140737488351232)
def lines_Get.f (l0 : List S29) (a1 : ByteArray) : Option (ByteArray × Bool) := if getOk l0 a1 then some (getL l0 a1) else none
theorem lines_Get.calls (A0 : Option Addr) (c0 : Nat) (l0 : List S29) (a1 : ByteArray) (r1 : ByteArray) (r2 : Bool) (w : World) (hr0 : Kd.C k29 w A0 l0.length l0) (hc0 : l0.length ≤ c0) (h : lines_Get.f l0 a1 = some (r1, r2)) :
    Calls Tryd.prog 14 #[.slice A0 l0.length c0, .string a1] w fun e w' => e = .returned (.tuple #[.string r1, .bool r2]) ∧ Below w.heap.size w w' := by
  unfold lines_Get.f at h
  split at h
  · rename_i hk
    have hq := Option.some.inj h
    unfold getOk at hk
    rw [Bool.and_eq_true, decide_eq_true_eq, List.all_eq_true] at hk
    obtain ⟨⟨h1, h2⟩, h3⟩ := hk
    have := get_any l0 a1 A0 c0 w hr0 hc0 h1 (fun x hx => of_decide_eq_true (h3 x hx)) h2
    rw [hq] at this
    exact this
  · cases h
def wrOk (l : List S29) (body : ByteArray) : Bool := decide (l.length ≤ 1000 ∧ body.size ≤ 1000000000) && l.all sizeOk
def lines_Write.f (l0 : List S29) (a1 : ByteArray) : Option (ByteArray × Int) := if wrOk l0 a1 then some (writeL l0 a1) else none
theorem lines_Write.calls (A0 : Option Addr) (c0 : Nat) (l0 : List S29) (a1 : ByteArray) (r1 : ByteArray) (r2 : Int) (w : World) (hr0 : Kd.C k29 w A0 l0.length l0) (hc0 : l0.length ≤ c0) (h : lines_Write.f l0 a1 = some (r1, r2)) :
    Calls Tryd.prog 20 #[.slice A0 l0.length c0, .string a1] w fun e w' => e = .returned (.tuple #[.string r1, .int .i64 r2]) ∧ Below w.heap.size w w' := by
  unfold lines_Write.f at h
  split at h
  · rename_i hk
    have hq := Option.some.inj h
    unfold wrOk at hk
    rw [Bool.and_eq_true, decide_eq_true_eq] at hk
    obtain ⟨⟨h1, h2⟩, h3⟩ := hk
    have := write_any l0 a1 A0 c0 w hr0 hc0 h1 h3 h2
    rw [hq] at this
    exact this
  · cases h
def muslinref03_Small.f (a0 : ByteArray) : Option ByteArray := if a0.size ≤ 140737488351232 then some ⟨(small a0.data.toList).toArray⟩ else none
theorem muslinref03_Small.calls (a0 : ByteArray) (r : ByteArray) (w : World) (h : muslinref03_Small.f a0 = some r) :
    Calls Tryd.prog 37 #[.string a0] w fun e w' => e = .returned (.string r) ∧ Below w.heap.size w w' := by
  unfold muslinref03_Small.f at h
  split at h
  · cases h
    exact refSmall_any a0 w (by assumption)
  · cases h
end Go.Proofs.YtomfdejamngkjaaDoor.Pr
