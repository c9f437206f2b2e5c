/- slices.ContainsFunc over nodes with fold.Where$1. -/
import Derived.Lib.SplitLaws
import Derived.Lib.Replace
import Derived.Lib.SlTrimSet
import Derived.Test.YtdgdilbbpnlplaaDoorShelf
import Derived.Test.YtdgdilbbpnlplaaDoorPrx0
import Derived.Shelf.Strings.SlTrimAscii
import Derived.Lib.Hide
import Derived.Deep.RegionHeld3
import Derived.Deep.RegionWith
import Derived.Deep.DeepCutAuto
import Derived.BigQuiet
import Derived.Lib.Strings
set_option linter.unusedVariables false
set_option linter.unusedSimpArgs false
namespace Go.Proofs.YtdgdilbbpnlplaaDoor
open Go Go.RowKit Go.Shelf Pr Go.Proofs.YtdgdilbbpnlplaaDoorW.PrintWords Go.Proofs.YtdgdilbbpnlplaaDoorW.PrintLast Go.Proofs.YtdgdilbbpnlplaaDoorW.PrintMore
def nbsp : List UInt8 := [194, 160]
def whs : List UInt8 := [32, 9, 10, 13]
def rep : List UInt8 → List UInt8
  | [] => []
  | [b] => [b]
  | b :: c :: r => if b = 194 ∧ c = 160 then 32 :: rep r else b :: rep (c :: r)
theorem nb_pre (b : UInt8) (l : List UInt8) : nbsp.isPrefixOf (b :: l) = true ↔ b = 194 ∧ ∃ r, l = 160 :: r := by
  unfold nbsp
  cases l with
  | nil => simp [List.isPrefixOf]
  | cons c r =>
    simp only [List.isPrefixOf, Bool.and_true, Bool.and_eq_true, beq_iff_eq, List.cons.injEq]
    constructor
    · rintro ⟨h1, h2⟩; exact ⟨h1.symm, r, h2.symm, rfl⟩
    · rintro ⟨h1, _, h2, _⟩; exact ⟨h1.symm, h2.symm⟩
theorem rep_no (b : UInt8) (l : List UInt8) (h : ¬ nbsp.isPrefixOf (b :: l) = true) : rep (b :: l) = b :: rep l := by
  cases l with
  | nil => rfl
  | cons c r =>
    rw [rep, if_neg]
    rintro ⟨h1, h2⟩
    exact h ((nb_pre _ _).2 ⟨h1, r, by rw [h2]⟩)
theorem rep_idx : ∀ l : List UInt8, (Lib.index l nbsp = -1 → rep l = l) ∧ (∀ i : Nat, Lib.index l nbsp = i → rep l = l.take i ++ [32] ++ rep (l.drop (i + 2)))
  | [] => ⟨fun _ => rfl, fun i h => by
      have : Lib.index ([] : List UInt8) nbsp = -1 := rfl
      rw [this] at h; omega⟩
  | b :: l => by
    have ih := rep_idx l
    by_cases hp : nbsp.isPrefixOf (b :: l) = true
    · have e : Lib.index (b :: l) nbsp = 0 := by rw [Lib.index, if_pos hp]
      refine ⟨fun h => by rw [e] at h; omega, fun i h => ?_⟩
      rw [e] at h
      have : i = 0 := by omega
      subst this
      obtain ⟨h1, r, rfl⟩ := (nb_pre _ _).1 hp
      subst h1
      rfl
    · by_cases hm : Lib.index l nbsp = -1
      · have e : Lib.index (b :: l) nbsp = -1 := by rw [Lib.index, if_neg hp, if_pos (by rw [hm]; rfl)]
        refine ⟨fun _ => by rw [rep_no _ _ hp, ih.1 hm], fun i h => by rw [e] at h; omega⟩
      · have hge := Lib.index_ge l nbsp
        obtain ⟨j, hj⟩ : ∃ j : Nat, Lib.index l nbsp = j := ⟨(Lib.index l nbsp).toNat, by omega⟩
        have e : Lib.index (b :: l) nbsp = j + 1 := by rw [Lib.index, if_neg hp, if_neg (by rw [hj]; intro h; have := beq_iff_eq.1 h; omega), hj]
        refine ⟨fun h => by rw [e] at h; omega, fun i h => ?_⟩
        rw [e] at h
        have : i = j + 1 := by omega
        subst this
        rw [rep_no _ _ hp, ih.2 j hj]
        simp
theorem rep_len : ∀ (n : Nat) (l : List UInt8), l.length ≤ n → (rep l).length ≤ l.length
  | 0, l, h => by cases l with | nil => exact Nat.le_refl _ | cons _ _ => simp at h
  | n + 1, l, h => by
    match l with
    | [] => exact Nat.le_refl _
    | [b] => exact Nat.le_refl _
    | b :: c :: r =>
      rw [rep]
      split
      · have := rep_len n r (by simp at h; omega)
        simp; omega
      · have := rep_len n (c :: r) (by simp at h ⊢; omega)
        simp at *; omega
theorem repK : ∀ (k : Nat) (l : List UInt8), Lib.count l nbsp ≤ k → Lib.replaceK nbsp [32] k l = rep l
  | 0, l, h => by
    rw [Lib.replaceK]
    refine ((rep_idx l).1 ?_).symm
    have hge := Lib.index_ge l nbsp
    by_cases hm : Lib.index l nbsp = -1
    · exact hm
    · have := Lib.count_hit (s := l) (sub := nbsp) (by decide) (i := (Lib.index l nbsp).toNat) (by omega)
      omega
  | k + 1, l, h => by
    have hge := Lib.index_ge l nbsp
    by_cases hm : Lib.index l nbsp = -1
    · rw [Lib.replaceK, if_pos (by rw [hm]; rfl)]
      exact ((rep_idx l).1 hm).symm
    · obtain ⟨i, hi⟩ : ∃ i : Nat, Lib.index l nbsp = i := ⟨(Lib.index l nbsp).toNat, by omega⟩
      rw [Lib.replaceK_hit _ _ _ _ i hi, (rep_idx l).2 i hi]
      have hc := Lib.count_hit (s := l) (sub := nbsp) (by decide) (i := i) hi
      have e : nbsp.length = 2 := rfl
      rw [e] at hc ⊢
      rw [repK k _ (by omega)]
theorem rep_all (l : List UInt8) : Lib.replaceAll l nbsp [32] = rep l := by
  unfold Lib.replaceAll Lib.replace
  rw [if_neg (by decide)]
  refine repK _ _ ?_
  unfold Lib.replaceNum
  rw [if_pos (.inl (by decide))]
  exact Nat.le_refl _
theorem dw_nil {p : UInt8 → Bool} : ∀ l : List UInt8, l.dropWhile p = [] ↔ ∀ x ∈ l, p x = true
  | [] => by simp
  | b :: l => by
    rw [List.dropWhile_cons]
    by_cases h : p b = true
    · rw [if_pos h, dw_nil l]; simp [h]
    · rw [if_neg h]; simp [h]
theorem trim_nil (l cs : List UInt8) : Lib.trimS l cs = [] ↔ ∀ x ∈ l, cs.contains x = true := by
  unfold Lib.trimS Lib.trimLeftS Lib.trimRightS
  rw [dw_nil]
  constructor
  · intro h
    have h0 : l.reverse.dropWhile (cs.contains ·) = [] := by
      cases hd : l.reverse.dropWhile (cs.contains ·) with
      | nil => rfl
      | cons y r =>
        have h1 := h y (by rw [hd]; simp)
        have h2 := List.head_dropWhile_not (cs.contains ·) (l := l.reverse) (by rw [hd]; simp)
        simp only [hd, List.head_cons] at h2
        rw [h1] at h2; cases h2
    rw [dw_nil] at h0
    intro x hx
    exact h0 x (by simpa using hx)
  · intro h x hx
    have : x ∈ l.reverse.dropWhile (cs.contains ·) := by simpa using hx
    exact h x (by simpa using (List.dropWhile_sublist _).subset this)
def bl : List UInt8 → Bool
  | [] => true
  | [b] => whs.contains b
  | b :: c :: r => if b = 194 ∧ c = 160 then bl r else whs.contains b && bl (c :: r)
theorem bl_rep : ∀ (n : Nat) (l : List UInt8), l.length ≤ n → ((∀ x ∈ rep l, whs.contains x = true) ↔ bl l = true)
  | 0, l, h => by cases l with | nil => simp [rep, bl] | cons _ _ => simp at h
  | n + 1, l, h => by
    match l with
    | [] => simp [rep, bl]
    | [b] => simp [rep, bl]
    | b :: c :: r =>
      rw [rep, bl]
      by_cases hc : b = 194 ∧ c = 160
      · rw [if_pos hc, if_pos hc, ← bl_rep n r (by simp at h; omega)]
        simp [whs]
      · rw [if_neg hc, if_neg hc, Bool.and_eq_true, ← bl_rep n (c :: r) (by simp at h ⊢; omega)]
        simp
theorem blank_text (l : List UInt8) : decide (Lib.trimS (Lib.replaceAll l nbsp [32]) whs = []) = bl l := by
  rw [Bool.eq_iff_iff, decide_eq_true_iff, trim_nil, rep_all]
  exact bl_rep _ _ (Nat.le_refl _)
theorem replace_len (l : List UInt8) : (Lib.replaceAll l nbsp [32]).length ≤ l.length := by
  rw [rep_all]; exact rep_len _ _ (Nat.le_refl _)
theorem trim_set (s t : ByteArray) (w : World) (hs : s.size ≤ 9223372036854775807) (h1 : t.size ≤ 1000) (h2 : t.data.toList.all (fun c => decide (c.toNat < 128)) = true) (h3 : 2 ≤ t.size) :
    Calls Tryd.prog 31 #[.string s, .string t] w fun e w' => e = .returned (.string ⟨(Lib.trimS s.data.toList t.data.toList).toArray⟩) ∧ Below w.heap.size w w' :=
  Any.strings_Trim_laid Tryd.lays160 (by kernel_rfl) s t w hs (by omega) (ascii_of_all h2)
/-- What fold's functions ask of the world: the library's and the package's own variables as they are laid. -/
def FdAt (w : World) : Prop := (∃ m, w.cell? ⟨3, 0, none⟩ = some (.int .i64 m)) ∧ w.cell? ⟨0, 0, none⟩ = some (.string ⟨#[116, 105, 116, 108, 101]⟩) ∧ w.cell? ⟨0, 1, none⟩ = some (.string ⟨#[113, 117, 111, 116, 101, 100]⟩)
theorem FdAt.below {w w1 : World} (h : FdAt w) {b : Nat} (hb : Below b w w1) (hs : w.heap.size ≤ b) : FdAt w1 := by
  obtain ⟨⟨m, h1⟩, h2, h3⟩ := h
  have k := fun {p : Addr} {v : Value} (h : w.cell? p = some v) => (hb.cell (Nat.lt_of_lt_of_le (World.block_lt_of_cell? w _ h) hs)).trans h
  exact ⟨⟨m, k h1⟩, k h2, k h3⟩
def blankB (f0 f2 : ByteArray) : Bool :=
  if f0.toList = [] then bl f2.data.toList else f0.toList == [98, 114]
set_option maxHeartbeats 2000000 in
set_option maxRecDepth 100000 in
theorem isBlank_any (f0 f2 : ByteArray) (A1 A3 : Option Addr) (n1 c1 n3 c3 : Nat) (w : World) (hw : FdAt w) (hs : f2.size ≤ 1000000) :
    Calls Tryd.prog 21 #[.agg #[.string f0, .slice A1 n1 c1, .string f2, .slice A3 n3 c3]] w fun e w' => e = .returned (.bool (blankB f0 f2)) ∧ Below w.heap.size w w' := by
  have hu32 := Tryd.underlying32
  have HW := Lib.hid hw
  clear hw
  by_cases h0 : f0.toList = []
  · have h0b : (!f0.toList.isEmpty) = false := by rw [h0]; rfl
    have HR : Hid (blankB f0 f2 = (Lib.trimS (Lib.replaceAll f2.data.toList nbsp [32]) whs).isEmpty) := Lib.hid (by unfold blankB; rw [if_pos h0, ← blank_text]; cases Lib.trimS (Lib.replaceAll f2.data.toList nbsp [32]) whs <;> rfl)
    have HL := Lib.hid (replace_len f2.data.toList)
    clear h0
    go_enter Tryd.func21, Tryd.ntmps21
    go_wp2_with fail
    obtain ⟨⟨m, hm⟩, _, _⟩ := HW.out.below (w1 := w.alloc (.cells #[.string f0, .slice A1 n1 c1, .string f2, .slice A3 n3 c3] 32 (0, 0))) (b := w.heap.size) ((Below.refl _ _).alloc (Nat.le_refl _) _) (Nat.le_refl _)
    refine (Tryd.strings_ReplaceAll f2 ⟨#[194, 160]⟩ ⟨#[32]⟩ m _ (by omega) hm (by decide) ?_).mono ?_
    · have := Lib.countB_le ⟨#[194, 160]⟩ (by decide) f2.size f2 (Nat.le_refl _)
      have e : (⟨#[32]⟩ : ByteArray).size = 1 := rfl
      rw [e]; omega
    rintro e w1 ⟨rfl, hb1⟩
    go_wp2_with fail
    refine (trim_set _ ⟨#[32, 9, 10, 13]⟩ _ ?_ (by decide) (by decide) (by decide)).mono ?_
    · have := HL.out
      have e : f2.data.toList.length = f2.size := by simp
      show (Lib.replaceAll f2.data.toList [194, 160] [32]).toArray.size ≤ _
      simp only [List.size_toArray]
      exact Nat.le_trans this (by omega)
    rintro e w2 ⟨rfl, hb2⟩
    go_wp2
    go_ret
    exact ⟨by rw [HR.out]; rfl, (((Below.refl _ _).alloc (Nat.le_refl _) _).trans (hb1.mono (by simp))).trans (hb2.mono (Nat.le_trans (by simp) hb1.size))⟩
  · have h0b : (!f0.toList.isEmpty) = true := by rw [Bool.not_eq_true', List.isEmpty_eq_false_iff]; exact h0
    have HR : Hid (blankB f0 f2 = (f0.toList == [98, 114])) := Lib.hid (by unfold blankB; rw [if_neg h0])
    clear h0
    go_enter Tryd.func21, Tryd.ntmps21
    go_wp2
    go_ret
    exact ⟨by rw [HR.out]; rfl, (Below.refl _ _).alloc (Nat.le_refl _) _⟩
set_option maxHeartbeats 1000000 in
set_option maxRecDepth 100000 in
/-- fold.Where$1: not blank. -/
theorem notBlank_any (f0 f2 : ByteArray) (A1 A3 : Option Addr) (n1 c1 n3 c3 : Nat) (w : World) (hw : FdAt w) (hs : f2.size ≤ 1000000) :
    Calls Tryd.prog 23 #[.agg #[.string f0, .slice A1 n1 c1, .string f2, .slice A3 n3 c3]] w fun e w' => e = .returned (.bool (!blankB f0 f2)) ∧ Below w.heap.size w w' := by
  have hu32 := Tryd.underlying32
  have HW := Lib.hid hw
  clear hw
  go_enter Tryd.func23, Tryd.ntmps23
  go_wp2_with fail
  refine (isBlank_any f0 f2 A1 A3 n1 c1 n3 c3 _ (HW.out.below (b := w.heap.size) ((Below.refl _ _).alloc (Nat.le_refl _) _) (Nat.le_refl _)) hs).mono ?_
  rintro e w1 ⟨rfl, hb1⟩
  go_wp2
  go_ret
  exact ⟨rfl, ((Below.refl _ _).alloc (Nat.le_refl _) _).trans (hb1.mono (by simp))⟩
def isBl (x : S32) : Bool := blankB x.f0 x.f2
def Szd (l : List S32) : Prop := l.length ≤ 1000000 ∧ ∀ x ∈ l, x.f2.size ≤ 1000000
theorem szd_getD {l : List S32} (h : Szd l) (k : Nat) : (l.getD k z32).f2.size ≤ 1000000 := by
  rw [List.getD_eq_getElem?_getD]
  cases hk : l[k]? with
  | none => show (0 : Nat) ≤ _; omega
  | some x => exact h.2 x (List.mem_of_getElem? hk)
theorem getD_get {l : List S32} {k : Nat} (h : k < l.length) : l.getD k z32 = l[k] := by
  rw [List.getD_eq_getElem?_getD, List.getElem?_eq_getElem h]; rfl
set_option maxHeartbeats 2000000 in
set_option maxRecDepth 100000 in
theorem indexF_any (A : Option Addr) (c n : Nat) (l : List S32) (w : World) (hr : Kd.C k32 w A l.length l) (hn : n ≤ l.length) (hw : FdAt w) (hs : Szd l) :
    Calls Tryd.prog 33 #[.slice A n c, .func (.func 23) #[] #[]] w fun e w' => (∃ i : Int, e = .returned (.int .i64 i) ∧ decide (0 ≤ i) = (l.take n).any (fun x => !isBl x)) ∧ Below w.heap.size w w' := by
  have hu32 := Tryd.underlying32
  have HR := Lib.hid hr
  have HW := Lib.hid hw
  have HS := Lib.hid hs
  have hlen := hs.1
  clear hr hw hs
  go_enter Tryd.func33, Tryd.ntmps33
  go_wp2
  go_loopw [8] (fun i wr => ∃ k : Nat, k ≤ n ∧ i = .int .i64 k ∧ Hid ((l.take k).any (fun x => !isBl x) = false) ∧ Hid (Below w.heap.size w wr)) (fun i _ => n - (intOf i).toNat)
  case atStart => exact ⟨0, Nat.zero_le _, rfl, Lib.hid rfl, Lib.hid (Below.refl _ _)⟩
  case round =>
    obtain ⟨k, hk, rfl, HK, Hb⟩ := hrel
    by_cases hlt : k < n
    · have hkl : k < l.length := by omega
      have hp : (0 : Int) ≤ (k : Int) := by omega
      have hq : (k : Int) < (n : Int) := by omega
      have hq' : (k : Int) < (l.length : Int) := by omega
      obtain ⟨ad, A1, c1, A3, c3, e, hx0, hx1, hx2, hx3, l1, g1, l3, g3⟩ := at_T32 HR.out (k : Int) hp hq'
      clear l1 g1 l3 g3
      subst e
      replace hx0 := (Hb.out.cell (World.block_lt_of_cell? w _ hx0)).trans hx0
      replace hx1 := (Hb.out.cell (World.block_lt_of_cell? w _ hx1)).trans hx1
      replace hx2 := (Hb.out.cell (World.block_lt_of_cell? w _ hx2)).trans hx2
      replace hx3 := (Hb.out.cell (World.block_lt_of_cell? w _ hx3)).trans hx3
      simp only [Int.toNat_natCast] at hx0 hx1 hx2 hx3
      have hrd : rd_T32 l (k : Int) = l.getD k z32 := by unfold rd_T32; rw [Int.toNat_natCast]
      rw [hrd] at hx0 hx1 hx2 hx3
      clear hrd
      have hsz := szd_getD HS.out k
      have HT : Hid ((l.take (k + 1)).any (fun x => !isBl x) = !isBl (l.getD k z32)) := Lib.hid (by
        rw [List.take_add_one, List.any_append, HK.out, List.getElem?_eq_getElem hkl, getD_get hkl]
        simp)
      have HA : Hid ((l.take n).any (fun x => !isBl x) = ((l.take (k + 1)).any (fun x => !isBl x) || ((l.take n).drop (k + 1)).any (fun x => !isBl x))) := Lib.hid (by
        rw [← List.any_append]
        congr 1
        have : (l.take n).take (k + 1) = l.take (k + 1) := by rw [List.take_take, Nat.min_eq_left (by omega)]
        rw [← this, List.take_append_drop])
      obtain ⟨n1, hn1⟩ : ∃ n1, n1 = (l.getD k z32).f1.length := ⟨_, rfl⟩
      obtain ⟨n3, hn3⟩ : ∃ n3, n3 = (l.getD k z32).f3.length := ⟨_, rfl⟩
      rw [← hn1] at hx1
      rw [← hn3] at hx3
      have HIB : Hid (isBl (l.getD k z32) = blankB (l.getD k z32).f0 (l.getD k z32).f2) := Lib.hid rfl
      clear hn1 hn3
      generalize l.getD k z32 = x at *
      go_wp2_with fail
      refine (notBlank_any x.f0 x.f2 A1 A3 n1 c1 n3 c3 _ (HW.out.below Hb.out (Nat.le_refl _)) hsz).mono ?_
      rintro e w1 ⟨rfl, hb1⟩
      have Hb1 : Hid (Below w.heap.size w w1) := Lib.hid (Hb.out.trans (hb1.mono Hb.out.size))
      clear hb1
      rw [← HIB.out]
      cases hd : isBl x with
      | false =>
        have HE : Hid ((l.take n).any (fun x => !isBl x) = true) := Lib.hid (by rw [HA.out, HT.out, hd]; rfl)
        clear HA HT
        go_wp2
        go_ret
        exact ⟨⟨_, rfl, by rw [HE.out]; exact decide_eq_true hp⟩, Hb1.out⟩
      | true =>
        have HE : Hid ((l.take (k + 1)).any (fun x => !isBl x) = false) := Lib.hid (by rw [HT.out, hd]; rfl)
        clear HA HT
        go_wp2
        go_roundw
        case rel => exact ⟨k + 1, by omega, by go_num, HE, Hb1⟩
        case measure => simp [intOf]; omega
    · have hkn : k = n := by omega
      subst hkn
      have hq : ¬ ((k : Int) < (k : Int)) := by omega
      go_wp2
      go_ret
      exact ⟨⟨_, rfl, by rw [HK.out]; rfl⟩, Hb.out⟩
set_option maxHeartbeats 1000000 in
set_option maxRecDepth 100000 in
theorem contains_any (A : Option Addr) (c n : Nat) (l : List S32) (w : World) (hr : Kd.C k32 w A l.length l) (hn : n ≤ l.length) (hw : FdAt w) (hs : Szd l) :
    Calls Tryd.prog 22 #[.slice A n c, .func (.func 23) #[] #[]] w fun e w' => e = .returned (.bool ((l.take n).any (fun x => !isBl x))) ∧ Below w.heap.size w w' := by
  go_enter Tryd.func22, Tryd.ntmps22
  go_wp2_with fail
  refine (indexF_any A c n l w hr hn hw hs).mono ?_
  rintro e w1 ⟨⟨i, rfl, hi⟩, hb1⟩
  have hi' := hi
  go_wp2
  go_ret
  exact ⟨by rw [← hi]; rfl, hb1⟩
end Go.Proofs.YtdgdilbbpnlplaaDoor
