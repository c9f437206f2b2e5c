/- Decode's own function value, and Decode whole. -/
import Derived.Test.YtpoifmcjahjphaaPlain
import Derived.RangeFuncBox
import Derived.Lib.CutLaws
import Derived.Lib.IndexBytes
import Derived.Lib.ConvBytes
import Derived.Deep.QuietTactic
import Derived.BigQuiet
set_option linter.unusedVariables false
set_option linter.unusedSimpArgs false
namespace Go.Proofs.Ytpoifmcjahjphaa
open Go.RowKit Go.Proofs.YtpoifmcjahjphaaW.PrintWords
theorem own_base {w : World} {base : Nat} {e : TypeId} {size n : Nat} {v : Value} {xs : List Value} (h : w.ownsRow base e size v n xs) (k : Nat) (hk : v.ownBlock = some k) : base ≤ k := by
  rcases h.2 with ⟨rfl, _⟩ | ⟨g, cap, cur, rfl, hb, _⟩
  · simp [Value.ownBlock] at hk
  · have : g = k := by simpa [Value.ownBlock] using hk
    omega
def RowAt (base X : Nat) (xs : List Value) (W : World) : Prop := ∃ v, W.heap[X]? = some (.cells #[v] 29 (0, 0)) ∧ W.ownsRow base 5 1 v xs.length xs
set_option maxHeartbeats 4000000 in
set_option maxRecDepth 100000 in
theorem dec1_any (base X : Nat) (xs : List Value) (n : Nat) (w : World) (h : RowAt base X xs w) (hXb : X < base) (hbw : base ≤ w.heap.size) (hlen : xs.length + 1 ≤ 140737488355328) (hn : n < 256) :
    Calls Try.prog 24 #[.int .i64 (n : Nat), .pointer (some ⟨X, 0, none⟩)] w fun e w' => e = .returned (.tuple #[]) ∧ RowAt base X (xs ++ [.int .u8 (n : Nat)]) w' ∧ Below X w w' ∧ (∀ k, k < base → k ≠ X → w'.heap[k]? = w.heap[k]?) := by
  obtain ⟨v, hX, hrow⟩ := h
  obtain ⟨i0, hi, hz0, hz1, hz2⟩ := info_parts bldByte
  have hb : Boxed w X 29 v := hX
  have hn0 : (0 : Int) ≤ (n : Int) := by omega
  have hn1 : (n : Int) < 256 := by omega
  have c1 := hb.cell
  have HB := Lib.hid hb
  clear hX hb
  go_enter Try.func24, Try.ntmps24
  go_wp2_with (at_builtin; refine wpList_append_own _ rfl _ _ 29 rfl base 5 i0 (.int .u8 0) 1 1 Try.underlying29 hi hz0 hz1 hz2 rfl (by decide) _ _ _ rfl (hrow.alloc _) ⟨w.heap.size, 0, none⟩ 1 1 [.int .u8 (n : Nat)] rfl rfl ?c1 ?c2 ?c3 ?c4 ?c5 ?_)
  case c1 =>
    intro j u hj
    match j, hj with
    | 0, hj => simp at hj; subst hj; simp [Addr.add]
  case c2 => intro u hu; simp at hu; subst hu; rfl
  case c3 => unfold maxLen; omega
  case c4 => omega
  case c5 => simp; omega
  intro v' w2 hown' hgrow _
  obtain ⟨g', cap', rfl⟩ := ownsRow_succ hown'
  have HR := Lib.hid hrow
  have HO := Lib.hid hown'
  have HG := Lib.hid hgrow
  have HV : Hid (Boxed w2 X 29 v) := Lib.hid ((HB.out.alloc _).kept hgrow (fun e => by have := own_base hrow _ e.symm; omega))
  have c2 := HV.out.cell
  have f2 := HV.out.frozen
  clear hrow hown' hgrow
  go_wp2
  go_end0
  have hs := HG.out.size
  have hbl := HG.out.block
  refine ⟨rfl, ⟨_, HV.out.set _, ?_⟩, ?_, ?_⟩
  · have := HO.out.kept (grownBy_setCell' w2 X (.slice (some ⟨g', 0, none⟩) (xs.length + 1) cap')) (.inr (fun e => by have := own_base HO.out _ e; omega))
    simpa using this
  · refine (((Below.refl X w).alloc (by have := HB.out.lt; omega) _).grown HG.out (by have := HB.out.lt; simp; omega) (fun k hk => by have := own_base HR.out k hk; omega)).setCell (p := ⟨X, 0, none⟩) (Nat.le_refl X) _
  · intro k hk hkX
    rw [Below.heap_setCell w2 ⟨X, 0, none⟩ _ k hkX, hbl k (by simp; omega) (fun e => by have := own_base HR.out k e.symm; omega), Lib.alloc_old w _ k (by omega)]

theorem row_set {base X Y : Nat} {xs : List Value} {W : World} {u : Value} (h : RowAt base X xs W) (hY : Y < base) (hXY : Y ≠ X) : RowAt base X xs (W.setCell ⟨Y, 0, none⟩ u) := by
  obtain ⟨v, hX, hrow⟩ := h
  refine ⟨v, (Below.heap_setCell W ⟨Y, 0, none⟩ u X (Ne.symm hXY)).trans hX, hrow.kept (grownBy_setCell' W Y u) (.inr (fun e => by have := own_base hrow _ e; omega))⟩

def decV (w0 : World) : Value := .func (.func 24) #[] #[.pointer (some ⟨w0.heap.size, 0, none⟩)]
def u8Cells (l : List Nat) : List Value := l.map fun n => .int .u8 (n : Nat)
def JD (w0 : World) (l : List Nat) (A b : Nat) (W : World) : Prop :=
  RowAt (w0.heap.size + 6) w0.heap.size (u8Cells l) W ∧ Boxes (w0.heap.size + 1) (decV w0) 6 8 A b W ∧ Below w0.heap.size w0 W ∧ w0.heap.size + 6 ≤ W.heap.size
theorem boxes_same {h : Nat} {F : Value} {fr m A b : Int} {W W' : World} (hB : Boxes h F fr m A b W) (hk : ∀ k, h ≤ k → k < h + 5 → W'.heap[k]? = W.heap[k]?) : Boxes h F fr m A b W' :=
  ⟨(hk _ (by omega) (by omega)).trans hB.b0, (hk _ (by omega) (by omega)).trans hB.b1, (hk _ (by omega) (by omega)).trans hB.b2, (hk _ (by omega) (by omega)).trans hB.b3, (hk _ (by omega) (by omega)).trans hB.b4⟩
theorem size_set (W : World) (p : Addr) (v : Value) : (W.setCell p v).heap.size = W.heap.size := by simp
theorem add_dec (w0 : World) (l : List Nat) (all bits n : Nat) (w : World) (hJ : JD w0 l all bits w) (hbits : bits = 0 ∨ bits = 2 ∨ bits = 4 ∨ bits = 6) (ha : all < 65536) (hn : n < 64) (hl : l.length + 2 ≤ 140737488355328) :
    Calls Try.prog 28 #[.int .i64 (n : Nat), .pointer (some ⟨w0.heap.size + 1 + 3, 0, none⟩), .pointer (some ⟨w0.heap.size + 1, 0, none⟩), .pointer (some ⟨w0.heap.size + 1 + 4, 0, none⟩), .pointer (some ⟨w0.heap.size + 1 + 1, 0, none⟩), .pointer (some ⟨w0.heap.size + 1 + 2, 0, none⟩)] w
      fun e w' => e = .returned (.int .i64 (((bits + 6) % 8 : Nat) : Int)) ∧ JD w0 (l ++ sends 8 (nextAll 6 all n) 20 (bits + 6)) (nextAll 6 all n) ((bits + 6) % 8) w' := by
  refine gather68 (w0.heap.size + 1) _ 140737488355328 (JD w0) (fun l A b W h => h.2.1) ?_ ?_ ?_ ?_ l all bits n w hJ hbits ha hn hl
  · rintro l A b W A' b' ⟨h1, h2, h3, h4⟩
    have h5 := boxes_set3 (A' : Int) h2
    exact ⟨row_set (row_set h1 (by omega) (by omega)) (by omega) (by omega), boxes_set4 _ h5, (h3.setCell (p := ⟨w0.heap.size + 1 + 3, 0, none⟩) (by show w0.heap.size ≤ w0.heap.size + 1 + 3; omega) _).setCell (p := ⟨w0.heap.size + 1 + 4, 0, none⟩) (by show w0.heap.size ≤ w0.heap.size + 1 + 4; omega) _, by rw [size_set, size_set]; exact h4⟩
  · rintro l A b W b' ⟨h1, h2, h3, h4⟩
    exact ⟨row_set h1 (by omega) (by omega), boxes_set4 _ h2, h3.setCell (p := ⟨w0.heap.size + 1 + 4, 0, none⟩) (by show w0.heap.size ≤ w0.heap.size + 1 + 4; omega) _, by rw [size_set]; exact h4⟩
  · rintro l A b W ⟨h1, h2, h3, h4⟩
    exact ⟨h1, ⟨h2.b0, h2.b1, h2.b2, h2.b3, h2.b4⟩, h3.drew, h4⟩
  · rintro l A b W x ⟨h1, h2, h3, h4⟩ hx hlm
    refine (dec1_any _ _ _ x W h1 (by omega) h4 (by simp [u8Cells]; omega) hx).mono ?_
    rintro e W' ⟨rfl, g1, g2, g3⟩
    refine ⟨rfl, ?_, boxes_same h2 (fun k h5 h6 => g3 k (by omega) (by omega)), h3.trans g2, Nat.le_trans h4 g2.size⟩
    simpa [u8Cells] using g1

theorem cut_ahead : ∀ l : List UInt8, (Lib.cut l [61]).1 = ahead l
  | [] => by
    have h : Lib.index [] [61] = -1 := by unfold Lib.index; rfl
    unfold Lib.cut
    rw [h]; rfl
  | x :: r => by
    have ih := cut_ahead r
    by_cases hx : x = 61
    · have h : Lib.index (x :: r) [61] = 0 := by unfold Lib.index; rw [if_pos (by simp [hx])]
      unfold Lib.cut ahead
      rw [h, hx]; simp
    · have hp : ([61] : List UInt8).isPrefixOf (x :: r) = false := by
        rw [Bool.eq_false_iff]; intro h; simp at h; exact hx h.symm
      have h : Lib.index (x :: r) [61] = if Lib.index r [61] == -1 then -1 else Lib.index r [61] + 1 := by
        conv => lhs; unfold Lib.index
        rw [hp]; rfl
      have hg := Lib.index_ge r [61]
      have ha : ahead (x :: r) = x :: ahead r := by
        unfold ahead
        rw [List.takeWhile_cons, if_pos (by simp [hx])]
      rw [ha, ← ih]
      unfold Lib.cut
      rw [h]
      by_cases h0 : Lib.index r [61] = -1
      · rw [h0]; rfl
      · have h1 : (Lib.index r [61] == -1) = false := by rw [beq_eq_false_iff_ne]; exact h0
        rw [h1]
        obtain ⟨i, hi⟩ : ∃ i : Nat, Lib.index r [61] = (i : Int) := ⟨(Lib.index r [61]).toNat, by omega⟩
        rw [hi]
        have e1 : (0 : Int) ≤ (i : Int) + 1 := by omega
        have e2 : ((i : Int) + 1).toNat = i + 1 := by omega
        simp [e1, e2]

set_option maxHeartbeats 2000000 in
theorem liteCut_one (s : ByteArray) (c : UInt8) (w : World) (hs : s.size ≤ 140737488351232) :
    Calls Try.prog 35 #[.string s, .string ⟨#[c]⟩] w fun e w' => e = .returned (.tuple #[.string ⟨(Lib.cut s.data.toList [c]).1.toArray⟩, .string ⟨(Lib.cut s.data.toList [c]).2.1.toArray⟩, .bool (Lib.cut s.data.toList [c]).2.2]) ∧ ∃ n, w' = w.drewN n := by
  have hidx : Lib.indexByte s.data.toList c = Lib.indexB s ⟨#[c]⟩ := (Lib.index_one s.data.toList c).symm
  rcases Lib.indexB_cases s ⟨#[c]⟩ with hix | ⟨i, hix, hroom⟩
  · obtain ⟨e1, e2, e3⟩ := Lib.cutB_miss s ⟨#[c]⟩ hix
    simp only at e1 e2 e3
    rw [e1, e2, e3]
    have hI := Lib.hid (hidx.trans hix)
    clear e1 e2 e3 hidx hix
    go_enter Try.func35, Try.ntmps35
    go_wp2_with fail
    refine (Try.stringslite_Index_one _ _ _).mono ?_
    rintro e w' ⟨rfl, rfl⟩
    rw [hI.out]
    go_wp2
    go_ret3
    exact ⟨rfl, 0, rfl⟩
  · obtain ⟨e1, e2, e3⟩ := Lib.cutB_hit s ⟨#[c]⟩ i hix
    simp only at e1 e2 e3
    rw [e1, e2, e3]
    have hI := Lib.hid (hidx.trans hix)
    have hroom' : i + 1 ≤ s.size := hroom
    have c1 : (0 : Int) ≤ ↑i := by omega
    have c2 : (↑i : Int) ≤ ↑s.size := by omega
    have c3 : (0 : Int) ≤ ↑i + 1 := by omega
    have c4 : (↑i + 1 : Int) ≤ ↑s.size := by omega
    clear e1 e2 e3 hidx hix
    go_enter Try.func35, Try.ntmps35
    go_wp2_with fail
    refine (Try.stringslite_Index_one _ _ _).mono ?_
    rintro e w' ⟨rfl, rfl⟩
    rw [hI.out]
    go_wp2_with fail
    go_quiet (fail)
    go_wp2
    go_ret3
    exact ⟨rfl, _, rfl⟩

set_option maxHeartbeats 1000000 in
theorem cut_one (s : ByteArray) (c : UInt8) (w : World) (hs : s.size ≤ 140737488351232) :
    Calls Try.prog 25 #[.string s, .string ⟨#[c]⟩] w fun e w' => e = .returned (.tuple #[.string ⟨(Lib.cut s.data.toList [c]).1.toArray⟩, .string ⟨(Lib.cut s.data.toList [c]).2.1.toArray⟩, .bool (Lib.cut s.data.toList [c]).2.2]) ∧ ∃ n, w' = w.drewN n := by
  go_enter Try.func25, Try.ntmps25
  go_wp2_with fail
  refine (liteCut_one s c w hs).mono ?_
  rintro e w' ⟨rfl, n, rfl⟩
  go_wp2
  go_ret3
  exact ⟨rfl, n, rfl⟩
def letB : ByteArray := ⟨letters.toArray⟩
/-- The numbers of the letters ahead of place i. -/
def psOf (l : List UInt8) (i : Nat) : List Nat := (l.take i).filterMap placeO
set_option maxHeartbeats 8000000 in
set_option maxRecDepth 100000 in
theorem decode_any (s : ByteArray) (w : World) (hs : s.size ≤ 1000000) :
    Calls Try.prog 15 #[.string s] w fun e w' => e = .returned (.string ⟨(decB s.data.toList).toArray⟩) ∧ Below w.heap.size w w' := by
  have hmf : ∀ (fn : Fn) (first cap : Array Value) (w : World), (Instr.makeFunc fn first cap).run Try.prog w = .ok (.func fn first cap) w := fun _ _ _ _ => rfl
  go_enter Try.func15, Try.ntmps15
  go_wp2_with fail
  refine (gather_any 6 8 24 (.pointer (some ⟨w.heap.size, 0, none⟩)) _).mono ?_
  rintro e w1 ⟨rfl, hB, hb⟩
  have HB := Lib.hid hB
  have Hb := Lib.hid hb
  clear hB hb
  have hsz : (w.alloc (Obj.cells #[Value.slice none 0 0] 29)).heap.size = w.heap.size + 1 := by simp
  rw [hsz] at HB Hb ⊢
  unfold gatherF
  have HJ0 : Hid (∀ n, JD w [] 0 0 (w1.drewN n)) := Lib.hid (fun n => by
    have hbx : Boxed w1 w.heap.size 29 (.slice none 0 0) := (Hb.out.block _ (by omega)).trans (heap_alloc_new w _)
    refine ⟨⟨.slice none 0 0, hbx, World.ownsRow_nil _ _ _ _⟩, ⟨HB.out.b0, HB.out.b1, HB.out.b2, HB.out.b3, HB.out.b4⟩, ⟨Hb.out.os, Hb.out.tape, Hb.out.output, by have := Hb.out.size; show w.heap.size ≤ w1.heap.size; omega, fun i hi => (Hb.out.block i (by omega)).trans (by rw [Lib.alloc_old w _ i hi])⟩, ?_⟩
    have := (Array.getElem?_eq_some_iff.1 HB.out.b4).1
    show w.heap.size + 6 ≤ w1.heap.size
    omega)
  clear HB Hb
  go_wp2_with fail
  refine (cut_one s 61 _ (by omega)).mono ?_
  rintro e w2 ⟨rfl, nd, rfl⟩
  have HJ1 := Lib.hid (HJ0.out nd)
  clear HJ0
  rw [cut_ahead]
  have HAL : Hid ((ahead s.data.toList).length ≤ s.size) := Lib.hid (Nat.le_trans (List.takeWhile_sublist _).length_le (by simp))
  have HDEC : Hid (decB s.data.toList = (decSt ((ahead s.data.toList).filterMap placeO)).1.map UInt8.ofNat) := Lib.hid rfl
  generalize ahead s.data.toList = al at *
  generalize w1.drewN nd = w3 at *
  obtain ⟨t, rfl⟩ : ∃ t : ByteArray, al = t.data.toList := ⟨⟨al.toArray⟩, rfl⟩
  have hts : t.size ≤ 1000000 := by have := HAL.out; simp at this; omega
  rw [Lib.mk_data]
  go_wp2_with fail
  go_loopw [17] (fun iv wr => ∃ i : Nat, i ≤ t.size ∧ iv = .int .i64 i ∧ Hid (JD w (decSt (psOf t.data.toList i)).1 (decSt (psOf t.data.toList i)).2.1 (decSt (psOf t.data.toList i)).2.2 wr)) (fun iv _ => t.size - (intOf iv).toNat)
  case atStart => exact ⟨0, Nat.zero_le _, rfl, HJ1⟩
  case round =>
    obtain ⟨i, hi, rfl, HJ⟩ := hrel
    have hst := decSt_len (psOf t.data.toList i)
    have hpl : (psOf t.data.toList i).length ≤ i := Nat.le_trans (List.length_filterMap_le _ _) (List.length_take_le _ _)
    by_cases hlt : i < t.size
    · have hp : (0 : Int) ≤ (i : Int) := by omega
      have hq : (i : Int) < (t.size : Int) := by omega
      have HK : Hid (psOf t.data.toList (i + 1) = psOf t.data.toList i ++ (placeO t[i]).toList) := Lib.hid (by
        unfold psOf
        rw [take_snoc t i hlt, List.filterMap_append]
        rw [List.filterMap_cons, List.filterMap_nil]
        cases placeO t[i] <;> rfl)
      have HPL := Lib.hid (placeO_lt t[i])
      have HSN := Lib.hid (decSt_snoc (psOf t.data.toList i))
      obtain ⟨h1, h2, h3⟩ := hst
      have H3 := Lib.hid h3
      have HP := Lib.hid hpl
      clear h3 hpl
      by_cases hix : 0 ≤ Lib.indexByte letters t[i]
      · have hpo : placeO t[i] = some (Lib.indexByte letters t[i]).toNat := by unfold placeO; rw [if_pos hix]
        obtain ⟨p, hpe⟩ : ∃ p : Nat, Lib.indexByte letters t[i] = (p : Int) := ⟨(Lib.indexByte letters t[i]).toNat, by omega⟩
        rw [hpe, Int.toNat_natCast] at hpo
        have hp64 := HPL.out p hpo
        have HPO := Lib.hid hpo
        have HPE := Lib.hid hpe
        clear hpo hpe hix
        have hpp : (0 : Int) ≤ (p : Int) := by omega
        have HIB : Hid (∀ W, Calls Try.prog 26 #[.string ⟨letters.toArray⟩, .int .u8 (t[i].toNat : Int)] W fun e w' => e = .returned (.int .i64 (p : Int)) ∧ w' = W) := Lib.hid (fun W => by
          have := Try.strings_IndexByte ⟨letters.toArray⟩ (t[i].toNat) W
          rw [Int.toNat_natCast, show t[i].toNat.toUInt8 = t[i] from by simp] at this
          rw [← HPE.out]
          exact this)
        have hadd := add_dec w _ _ _ p _ HJ.out h1 h2 hp64 (by have := H3.out; have := HP.out; omega)
        have HADD := Lib.hid hadd
        clear hadd h1 h2
        go_wp2_with fail
        refine (HIB.out _).mono ?_
        rintro e w' ⟨rfl, rfl⟩
        clear HIB
        go_wp2_with fail
        refine HADD.out.mono ?_
        rintro e w2 ⟨rfl, hJ2⟩
        have HJ2 : Hid (JD w (decSt (psOf t.data.toList (i + 1))).1 (decSt (psOf t.data.toList (i + 1))).2.1 (decSt (psOf t.data.toList (i + 1))).2.2 w2) := Lib.hid (by
          rw [HK.out, HPO.out]
          show JD w (decSt (psOf t.data.toList i ++ [p])).1 (decSt (psOf t.data.toList i ++ [p])).2.1 (decSt (psOf t.data.toList i ++ [p])).2.2 _
          rw [decSt_snoc]; exact hJ2)
        clear hJ2 HJ HADD
        go_wp2
        go_roundw
        case rel => exact ⟨i + 1, by omega, by go_num, HJ2⟩
        case measure => simp [intOf]; omega
      · have hpo : placeO t[i] = none := by unfold placeO; rw [if_neg hix]
        have HJ2 : Hid (JD w (decSt (psOf t.data.toList (i + 1))).1 (decSt (psOf t.data.toList (i + 1))).2.1 (decSt (psOf t.data.toList (i + 1))).2.2 wr) := Lib.hid (by
          rw [HK.out, hpo]
          show JD w (decSt (psOf t.data.toList i ++ [])).1 (decSt (psOf t.data.toList i ++ [])).2.1 (decSt (psOf t.data.toList i ++ [])).2.2 _
          rw [List.append_nil]; exact HJ.out)
        obtain ⟨p, hpe⟩ : ∃ p : Int, Lib.indexByte letters t[i] = p := ⟨_, rfl⟩
        have HIB : Hid (∀ W, Calls Try.prog 26 #[.string ⟨letters.toArray⟩, .int .u8 (t[i].toNat : Int)] W fun e w' => e = .returned (.int .i64 p) ∧ w' = W) := Lib.hid (fun W => by
          have := Try.strings_IndexByte ⟨letters.toArray⟩ (t[i].toNat) W
          rw [Int.toNat_natCast, show t[i].toNat.toUInt8 = t[i] from by simp] at this
          rw [← hpe]
          exact this)
        rw [hpe] at hix
        have hpp : p < 0 := by omega
        clear hpo hpe hix h1 h2
        go_wp2_with fail
        refine (HIB.out _).mono ?_
        rintro e w' ⟨rfl, rfl⟩
        clear HIB HJ
        go_wp2
        go_roundw
        case rel => exact ⟨i + 1, by omega, by go_num, HJ2⟩
        case measure => simp [intOf]; omega
    · obtain rfl : i = t.size := by omega
      have HPS : Hid (psOf t.data.toList t.size = t.data.toList.filterMap placeO) := Lib.hid (by unfold psOf; rw [List.take_of_length_le (by simp)])
      rw [HPS.out] at HJ
      obtain ⟨v, hv, hrow⟩ := HJ.out.1
      have HB := Lib.hid HJ.out.2.2.1
      have hbx : Boxed wr w.heap.size 29 v := hv
      have hcl := hbx.cell
      have hcv : ∀ W : World, W = wr → (convert 29 9 v).run Try.prog W = .ok (.string ⟨(decB s.data.toList).toArray⟩) W := by
        rintro W rfl
        have e : u8Cells (decSt (t.data.toList.filterMap placeO)).1 = nums .u8 ((decSt (t.data.toList.filterMap placeO)).1.map fun n : Nat => (n : Int)) := by simp [u8Cells, nums]
        rw [e] at hrow
        have h := own_string (P := Try.prog) (src := 29) (dst := 9) (e := 5) Try.underlying29 Try.underlying5 Try.underlying9 hrow
        rw [h, HDEC.out]
        congr 2
        unfold strOfNums
        rw [List.map_map]
        congr 2
      have hcv' := hcv wr rfl
      clear hst hpl hv hrow hbx HJ hcv
      go_wp2_with fail
      go_ret
      exact ⟨rfl, HB.out⟩
end Go.Proofs.Ytpoifmcjahjphaa
