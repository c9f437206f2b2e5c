/- The first field of a name. -/
import Derived.Test.YtomfdejamngkjaaDoorAny
import Derived.Test.YtomfdejamngkjaaDoorPrx0
import Derived.Deep.RegionHeld3
import Derived.RangeFuncBox
set_option linter.unusedVariables false
set_option linter.unusedSimpArgs false
namespace Go.Proofs.YtomfdejamngkjaaDoor
open Go.RowKit Plain Pr Go.Proofs.YtomfdejamngkjaaDoorW.PrintWords
/-- A handed-in row of fields, cell by cell. -/
theorem row29 {w : World} {A : Option Addr} {l : List S29} (h : Kd.C k29 w A l.length l) (h0 : 0 < l.length) :
    ∃ b o, A = some ⟨b, o, none⟩ ∧ b < w.heap.size ∧ ∀ j (hj : j < l.length), w.cell? ⟨b, o + j * 2, none⟩ = some (.string l[j].f0) ∧ w.cell? ⟨b, o + j * 2 + 1, none⟩ = some (.string l[j].f1) := by
  obtain ⟨ad, rfl, _⟩ := h.2.2 h0
  obtain ⟨b, o, sp⟩ := ad
  have hget : ∀ j (hj : j < l.length), w.cell? ((⟨b, o, sp⟩ : Addr).add (j * 2)) = some (.string l[j].f0) ∧ w.cell? ⟨((⟨b, o, sp⟩ : Addr).add (j * 2)).block, ((⟨b, o, sp⟩ : Addr).add (j * 2)).off + 1, none⟩ = some (.string l[j].f1) := by
    intro j hj
    obtain ⟨ad', e, h1, h2⟩ := at_T29 h (j : Int) (by omega) (by omega)
    cases e
    have e : rd_T29 l (j : Int) = l[j] := by unfold rd_T29; rw [Int.toNat_natCast, List.getD_eq_getElem?_getD, List.getElem?_eq_getElem hj]; rfl
    rw [e, Int.toNat_natCast] at h1 h2
    exact ⟨h1, h2⟩
  have h00 := (hget 0 h0).1
  have hsp : sp = none := by
    unfold World.cell? Addr.add at h00
    simp only [Nat.zero_mul, if_true] at h00
    cases sp with
    | none => rfl
    | some q => revert h00; cases w.heap[b]? with
      | none => simp
      | some ob => cases ob <;> simp
  subst hsp
  have hbk : b < w.heap.size := World.block_lt_of_cell? w _ h00
  refine ⟨b, o, rfl, hbk, fun j hj => ?_⟩
  have e : (⟨b, o, none⟩ : Addr).add (j * 2) = ⟨b, o + j * 2, none⟩ := by
    unfold Addr.add
    split
    · rename_i h; rw [h]; rfl
    · rfl
  have := hget j hj
  rwa [e] at this
def nameIs (nm : ByteArray) (x : S29) : Bool := small x.f0.data.toList == small nm.data.toList
set_option maxHeartbeats 4000000 in
theorem getFun (B : Nat) (nm : ByteArray) (x : S29) (w : World) (hx : x.f0.size ≤ 140737488351232) (hn : nm.size ≤ 140737488351232) (hc : w.cell? ⟨B, 0, none⟩ = some (.string nm)) :
    Calls Tryd.prog 24 #[.agg #[.string x.f0, .string x.f1], .pointer (some ⟨B, 0, none⟩)] w fun e w' => e = .returned (.bool (nameIs nm x)) ∧ Below w.heap.size w w' := by
  have HN : Hid (nameIs nm x = (small x.f0.data.toList == small nm.data.toList)) := Lib.hid rfl
  have hBw : B < w.heap.size := World.block_lt_of_cell? w _ hc
  have keepS : ∀ (W W' : World), (W.cell? ⟨w.heap.size, 0, none⟩ = some (.string x.f0) ∧ W.cell? ⟨B, 0, none⟩ = some (.string nm) ∧ Below w.heap.size w W) → Below W.heap.size W W' → (W'.cell? ⟨w.heap.size, 0, none⟩ = some (.string x.f0) ∧ W'.cell? ⟨B, 0, none⟩ = some (.string nm) ∧ Below w.heap.size w W') := by
    rintro W W' ⟨h1, h2, h3⟩ hb
    exact ⟨(hb.cell (p := ⟨w.heap.size, 0, none⟩) (World.block_lt_of_cell? W _ h1)).trans h1, (hb.cell (p := ⟨B, 0, none⟩) (World.block_lt_of_cell? W _ h2)).trans h2, h3.trans (hb.mono h3.size)⟩
  have hs0 : (w.alloc (Obj.cells #[.string x.f0, .string x.f1] 29)).cell? ⟨w.heap.size, 0, none⟩ = some (.string x.f0) ∧ (w.alloc (Obj.cells #[.string x.f0, .string x.f1] 29)).cell? ⟨B, 0, none⟩ = some (.string nm) ∧ Below w.heap.size w (w.alloc (Obj.cells #[.string x.f0, .string x.f1] 29)) := by
    refine ⟨?_, ?_, (Below.refl _ w).alloc (Nat.le_refl _) _⟩
    · rw [Lib.cell_of_heap (heap_alloc_new w _)]; rfl
    · exact (World.cell?_alloc_lt w _ ⟨B, 0, none⟩ hBw).trans hc
  have HKS := Lib.hid keepS
  clear keepS
  go_enter Tryd.func24, Tryd.ntmps24
  go_wp2_with fail
  generalize (w.alloc (Obj.cells #[.string x.f0, .string x.f1] 29)) = w0 at *
  go_region_held3 (fun w' => w'.cell? ⟨w.heap.size, 0, none⟩ = some (.string x.f0) ∧ w'.cell? ⟨B, 0, none⟩ = some (.string nm) ∧ Below w.heap.size w w')
    (first | (with_reducible exact hs3) | (with_reducible exact hs2) | exact ⟨hs0.1, hs0.2.1, hs0.2.2.drew⟩ | go_keep)
    (first | (go_at_call 25; (with_reducible refine (small_any x.f0 _ hx).mono ?_); rintro e w2 ⟨rfl, hb2⟩; have hs2 := HKS.out _ _ (by with_reducible assumption) hb2; clear hb2) | (go_at_call 25; (with_reducible refine (small_any nm _ hn).mono ?_); rintro e w3 ⟨rfl, hb3⟩; have hs3 := HKS.out _ _ (by with_reducible assumption) hb3; clear hb3))
  have HB := Lib.hid hs3.2.2
  clear hs0 hs2 hs3
  go_wp2
  go_ret
  exact ⟨by rw [HN.out]; rfl, HB.out⟩
def idxAt (l : List S29) (nm : ByteArray) : Int := match l.findIdx? (nameIs nm) with
  | some i => (i : Int)
  | none => -1
set_option maxHeartbeats 4000000 in
theorem index_any (l : List S29) (nm : ByteArray) (A : Option Addr) (B c : Nat) (w : World) (hr : Kd.C k29 w A l.length l) (hl : l.length ≤ 1000000) (hsz : ∀ x ∈ l, x.f0.size ≤ 140737488351232) (hn : nm.size ≤ 140737488351232) (hcell : w.cell? ⟨B, 0, none⟩ = some (.string nm)) :
    Calls Tryd.prog 23 #[.slice A l.length c, .func (.func 24) #[] #[.pointer (some ⟨B, 0, none⟩)]] w fun e w' => e = .returned (.int .i64 (idxAt l nm)) ∧ Below w.heap.size w w' := by
  have HR := Lib.hid hr
  have HSZ := Lib.hid hsz
  have hBw : B < w.heap.size := World.block_lt_of_cell? w _ hcell
  have HC := Lib.hid hcell
  clear hr hsz hcell
  go_enter Tryd.func23, Tryd.ntmps23
  go_wp2
  go_loopw [8] (fun i wr => ∃ k : Nat, k ≤ l.length ∧ i = .int .i64 k ∧ Hid (Below w.heap.size w wr) ∧ Hid (∀ j (hj : j < l.length), j < k → nameIs nm l[j] = false)) (fun i _ => l.length - (intOf i).toNat)
  case atStart => exact ⟨0, Nat.zero_le _, rfl, Lib.hid (Below.refl _ _), Lib.hid (fun j _ h => absurd h (Nat.not_lt_zero _))⟩
  case round =>
    obtain ⟨k, hk, rfl, HB, HA⟩ := hrel
    by_cases hlt : k < l.length
    · obtain ⟨b, o, rfl, hb, hcs⟩ := row29 HR.out (by omega)
      obtain ⟨h1, h2⟩ := hcs k hlt
      have c1 := (HB.out.cell (p := ⟨b, o + k * 2, none⟩) hb).trans h1
      have c2 := (HB.out.cell (p := ⟨b, o + k * 2 + 1, none⟩) hb).trans h2
      have hx := HSZ.out l[k] (List.getElem_mem hlt)
      have HGF := Lib.hid (getFun B nm l[k] wr hx hn ((HB.out.cell (p := ⟨B, 0, none⟩) hBw).trans HC.out))
      have HX : Hid (l[k] = l[k]) := Lib.hid rfl
      generalize hxk : l[k] = x at *
      have HXK := Lib.hid hxk
      have hp : (0 : Int) ≤ (k : Int) := by omega
      have hq : (k : Int) < (l.length : Int) := by omega
      clear hxk h1 h2 hcs HX
      go_wp2_with fail
      refine HGF.out.mono ?_
      rintro e w2 ⟨rfl, hb2⟩
      have HB2 : Hid (Below w.heap.size w w2) := Lib.hid (HB.out.trans (hb2.mono HB.out.size))
      clear hb2 HGF
      cases hin : nameIs nm x with
      | true =>
        have HIN := Lib.hid hin
        clear hin
        go_wp2
        go_ret
        refine ⟨?_, HB2.out⟩
        have e : l.findIdx? (nameIs nm) = some k := by
          rw [List.findIdx?_eq_some_iff_getElem]
          exact ⟨hlt, by rw [HXK.out]; exact HIN.out, fun j hj => by rw [HA.out j (by omega) hj]; simp⟩
        unfold idxAt
        rw [e]; rfl
      | false =>
        have HIN := Lib.hid hin
        clear hin
        go_wp2
        go_roundw
        case rel =>
          refine ⟨k + 1, by omega, by go_num, HB2, Lib.hid (fun j hj h => ?_)⟩
          by_cases hjk : j = k
          · subst hjk; rw [HXK.out]; exact HIN.out
          · exact HA.out j hj (by omega)
        case measure => simp [intOf]; omega
    · obtain rfl : k = l.length := by omega
      go_wp2
      go_ret
      refine ⟨?_, HB.out⟩
      have e : l.findIdx? (nameIs nm) = none := by
        rw [List.findIdx?_eq_none_iff]
        intro x hx
        obtain ⟨j, hj, rfl⟩ := List.mem_iff_getElem.1 hx
        exact HA.out j hj hj
      unfold idxAt
      rw [e]; rfl
theorem idxAt_cases (l : List S29) (nm : ByteArray) : (l.findIdx? (nameIs nm) = none ∧ idxAt l nm = -1) ∨ ∃ i, ∃ (h : i < l.length), l.findIdx? (nameIs nm) = some i ∧ idxAt l nm = (i : Int) := by
  unfold idxAt
  cases h : l.findIdx? (nameIs nm) with
  | none => exact .inl ⟨rfl, rfl⟩
  | some i =>
    have := (List.findIdx?_eq_some_iff_getElem.1 h).1
    exact .inr ⟨i, this, rfl, rfl⟩
/-- The first field of a name. -/
def getL (l : List S29) (nm : ByteArray) : ByteArray × Bool := match l.findIdx? (nameIs nm) with
  | some i => ((l.getD i z29).f1, true)
  | none => (⟨#[]⟩, false)
set_option maxHeartbeats 4000000 in
theorem get_any (l : List S29) (nm : ByteArray) (A : Option Addr) (c : Nat) (w : World) (hr : Kd.C k29 w A l.length l) (hlc : l.length ≤ c) (hl : l.length ≤ 1000000) (hsz : ∀ x ∈ l, x.f0.size ≤ 140737488351232) (hn : nm.size ≤ 140737488351232) :
    Calls Tryd.prog 14 #[.slice A l.length c, .string nm] w fun e w' => e = .returned (.tuple #[.string (getL l nm).1, .bool (getL l nm).2]) ∧ Below w.heap.size w w' := by
  have hmf : ∀ (fn : Fn) (first cap : Array Value) (w : World), (Instr.makeFunc fn first cap).run Tryd.prog w = .ok (.func fn first cap) w := fun _ _ _ _ => rfl
  have HB0 : Hid (Below w.heap.size w (w.alloc (Obj.cells #[.string nm] 9))) := Lib.hid ((Below.refl _ w).alloc (Nat.le_refl _) _)
  have HR2 : Hid (Kd.C k29 (w.alloc (Obj.cells #[.string nm] 9)) A l.length l) := Lib.hid (Kd.C_below hr HB0.out)
  have HC : Hid ((w.alloc (Obj.cells #[.string nm] 9)).cell? ⟨w.heap.size, 0, none⟩ = some (.string nm)) := Lib.hid (by rw [Lib.cell_of_heap (heap_alloc_new w _)]; rfl)
  have HIX := Lib.hid (index_any l nm A w.heap.size c _ HR2.out hl hsz hn HC.out)
  have HCS := Lib.hid (idxAt_cases l nm)
  have HG : Hid (getL l nm = match l.findIdx? (nameIs nm) with
    | some i => ((l.getD i z29).f1, true)
    | none => (⟨#[]⟩, false)) := Lib.hid rfl
  have HR := Lib.hid hr
  clear hr hsz
  go_enter Tryd.func14, Tryd.ntmps14
  go_wp2_with fail
  refine HIX.out.mono ?_
  rintro e w2 ⟨rfl, hb2⟩
  have HB2 : Hid (Below w.heap.size w w2) := Lib.hid (HB0.out.trans (hb2.mono HB0.out.size))
  clear hb2 HIX HR2 HC
  rcases HCS.out with ⟨h1, h2⟩ | ⟨i, hi, h1, h2⟩
  · have H1 := Lib.hid h1
    rw [h2]
    clear h1 h2
    go_wp2
    go_ret2
    exact ⟨by rw [HG.out, H1.out]; rfl, HB2.out⟩
  · obtain ⟨b, o, rfl, hb, hcs⟩ := row29 HR.out (by omega)
    have c2 := (HB2.out.cell (p := ⟨b, o + i * 2 + 1, none⟩) hb).trans (hcs i hi).2
    have H1 := Lib.hid h1
    have e : l.getD i z29 = l[i] := by rw [List.getD_eq_getElem?_getD, List.getElem?_eq_getElem hi]; rfl
    have HE := Lib.hid e
    rw [h2]
    have hp : (0 : Int) ≤ (i : Int) := by omega
    have hq : (i : Int) < (l.length : Int) := by omega
    clear h1 h2 hcs e
    go_wp2
    go_ret2
    exact ⟨by rw [HG.out, H1.out]; simp only; rw [HE.out]; rfl, HB2.out⟩
end Go.Proofs.YtomfdejamngkjaaDoor
