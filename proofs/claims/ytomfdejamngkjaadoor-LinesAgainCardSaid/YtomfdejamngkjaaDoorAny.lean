/- strings.ContainsAny at a line's two ends: for every string. -/
import Derived.Test.YtomfdejamngkjaaDoorSml
import Derived.Deep.LoopGhost
import Derived.WalkMore
import Derived.Lib.OthersKept
import Derived.Lib.TrimUEq
import Derived.Lib.SpaceUEq
set_option linter.unusedVariables false
set_option linter.unusedSimpArgs false
namespace Go.Proofs.YtomfdejamngkjaaDoor
open Go.RowKit
theorem below_iter (w : World) (s : ByteArray) (i : Nat) : Below w.heap.size w (w.iter s i) := (Below.refl _ w).alloc (Nat.le_refl _) _
def endsB (c : UInt8) : Bool := c == 13 || c == 10
set_option maxHeartbeats 4000000 in
set_option maxRecDepth 1000000 in
theorem indexRune_crlf (r : Nat) (h1 : 128 ≤ r) (h2 : r ≤ 1114111) (w : World) :
    Calls Tryd.prog 66 #[.string ⟨#[13, 10]⟩, .int .i32 r] w fun e w' => e = .returned (.int .i64 (-1)) ∧ Below w.heap.size w w' := by
  have g0 : (0 : Int) ≤ (r : Int) := by omega
  have g1 : ¬ (r : Int) < 128 := by omega
  have g2 : 128 ≤ (r : Int) := by omega
  by_cases he : r = 65533
  · subst he
    go_enter Tryd.func66, Tryd.ntmps66
    go_wp2_with fail
    go_loopg [5, 6] 2 (fun g _ _ wx => ∃ i : Nat, i + g = 2 ∧ wx = w.iter ⟨#[13, 10]⟩ i)
    case atStart => exact ⟨0, by omega, rfl⟩
    case round =>
      obtain ⟨i, hig, rfl⟩ := hrel
      cases gk with
      | zero =>
        obtain rfl : i = 2 := by omega
        have hnx := fun ty => run_next_end (P := Tryd.prog) w ⟨#[13, 10]⟩ 2 ty (by decide)
        go_wp2
        go_ret
        exact ⟨rfl, below_iter w _ _⟩
      | succ g =>
        have hi : i = 0 ∨ i = 1 := by omega
        rcases hi with rfl | rfl
        · have hnx := fun ty => run_next_ascii (P := Tryd.prog) w ⟨#[13, 10]⟩ 0 ty (by decide) (by decide)
          go_wp2
          go_roundg g
          case measure => omega
          case rel => exact ⟨1, by omega, rfl⟩
        · have hnx := fun ty => run_next_ascii (P := Tryd.prog) w ⟨#[13, 10]⟩ 1 ty (by decide) (by decide)
          go_wp2
          go_roundg g
          case measure => omega
          case rel => exact ⟨2, by omega, rfl⟩
  · have g3 : ((r : Int) == 65533) = false := beq_eq_false_iff_ne.2 (by omega)
    have hvr : Lib.validRune (r : Int) = Utf8.valid (r : Int) := by
      unfold Lib.validRune Utf8.valid
      rw [Bool.eq_iff_iff]; simp; omega
    by_cases hv : Utf8.valid (r : Int) = true
    · obtain ⟨e1, e2, e3⟩ := encode_facts (r : Int) hv g2
      obtain ⟨rs, hrs⟩ : ∃ rs, Utf8.encode (r : Int) = rs := ⟨_, rfl⟩
      rw [hrs] at e1 e2
      have e3' : ∀ (h : rs.size - 1 < rs.size), 128 ≤ (rs[rs.size - 1]'h).toNat := by subst hrs; exact e3
      clear e3
      by_cases hs : rs.size = 2
      · obtain ⟨x, hx⟩ : ∃ x : UInt8, x = rs[1]'(by rw [hs]; decide) := ⟨_, rfl⟩
        have hx2 : 128 ≤ x.toNat := by
          have h := e3' (by rw [hs]; decide)
          simp only [hs] at h
          rw [hx]; exact h
        have hi1 : ∀ W, (Instr.index 9 (.string ⟨#[13, 10]⟩) (.int .i64 1)).run Tryd.prog W = .ok (.int .u8 10) W := fun W => by
          rw [run_index_string W 9 _ .i64 1 Tryd.underlying9, dif_pos ⟨by decide, by decide⟩]; rfl
        have hi2 : ∀ W, (Instr.index 9 (.string rs) (.int .i64 1)).run Tryd.prog W = .ok (.int .u8 (x.toNat : Int)) W := fun W => by
          rw [run_index_string W 9 _ .i64 1 Tryd.underlying9, dif_pos ⟨by decide, by rw [hs]; decide⟩, hx]; rfl
        have hne : ((10 : Int) != (x.toNat : Int)) = true := bne_iff_ne.2 (by omega)
        have hs7 : ∀ W, (Instr.slice 9 (.string ⟨#[13, 10]⟩) (some (.int .i64 2)) none none).run Tryd.prog W = .ok (.string ⟨#[]⟩) W := fun W => by
          have := run_slice_string_l (P := Tryd.prog) W 9 ⟨#[13, 10]⟩ Tryd.underlying9 .i64 2 (by decide) (by decide)
          rw [this]; rfl
        have hIB : ∀ W, Calls Tryd.prog 78 #[.string ⟨#[]⟩, .int .u8 (x.toNat : Int)] W fun e w' => e = .returned (.int .i64 (-1)) ∧ w' = W := fun W => Tryd.strings_IndexByte ⟨#[]⟩ (x.toNat : Int) W
        have hw2 : IntKind.i64.wrap 2 = 2 := by decide
        have HX := Lib.hid hx
        have HIB := Lib.hid hIB
        clear hx e3' hIB
        go_enter Tryd.func66, Tryd.ntmps66
        go_wp2_with fail
        refine (Tryd.utf8_ValidRune _ _).mono ?_
        rintro e w' ⟨rfl, rfl⟩
        rw [hvr, hv]
        go_wp2_with fail
        go_step3
        go_wp2
        go_loopg [9] 1 (fun g i wx => g = 1 ∧ i = .int .i64 1 ∧ wx = w')
        case atStart => exact ⟨rfl, rfl, rfl⟩
        case round =>
          obtain ⟨rfl, rfl, rfl⟩ := hrel
          go_wp2_with fail
          go_step3
          go_wp2_with fail
          go_quiet (fail)
          go_wp2_with fail
          generalize hW2 : World.drewN _ _ = W2
          have HB3 : Hid (Below wr.heap.size wr W2) := Lib.hid (hW2 ▸ ⟨rfl, rfl, rfl, Nat.le_refl _, fun _ _ => rfl⟩)
          clear hW2
          go_quiet ((go_at_call 78; exact Calls.quiet_of_same (HIB.out _)))
          go_wp2
          rw [Exit.noGoto_ret]
          go_wp2
          try rw [Exit.noGoto_ret]
          go_ret
          exact ⟨rfl, HB3.out.os, HB3.out.tape, HB3.out.output, HB3.out.size, HB3.out.block⟩
      · have hs3 : 3 ≤ rs.size := by omega
        go_enter Tryd.func66, Tryd.ntmps66
        go_wp2_with fail
        refine (Tryd.utf8_ValidRune _ _).mono ?_
        rintro e w' ⟨rfl, rfl⟩
        rw [hvr, hv]
        go_wp2_with fail
        go_step3
        go_wp2
        have hz : ¬ (rs.size : Int) - 1 < 2 := by omega
        go_loopg [9] 1 (fun g i wx => g = 1 ∧ i = .int .i64 ((rs.size : Int) - 1) ∧ wx = w')
        case atStart => exact ⟨rfl, rfl, rfl⟩
        case round =>
          obtain ⟨rfl, rfl, rfl⟩ := hrel
          go_wp2
          go_ret
          exact ⟨rfl, Below.refl _ _⟩
    · have hv' : Utf8.valid (r : Int) = false := by simpa using hv
      go_enter Tryd.func66, Tryd.ntmps66
      go_wp2_with fail
      refine (Tryd.utf8_ValidRune _ _).mono ?_
      rintro e w' ⟨rfl, rfl⟩
      rw [hvr, hv']
      go_wp2
      go_ret
      exact ⟨rfl, Below.refl _ _⟩
theorem dec_conts (s : ByteArray) (i : Nat) (h : i < s.size) (hb : 128 ≤ s[i].toNat) : ∀ j, i ≤ j → j < i + (Utf8.decode s i).2 → j < s.size ∧ endsB (s.data.toList.getD j 0) = false := by
  intro j h1 h2
  have hi0 : s.data.toList.getD i 0 = s[i] := by
    rw [List.getD_eq_getElem?_getD, List.getElem?_eq_getElem (by simpa using h)]; rfl
  have hlen : s.data.toList.length = s.size := by simp
  have key : ∀ c : UInt8, 128 ≤ c.toNat → endsB c = false := u8_all (by decide +kernel)
  rw [Lib.decode_N] at h2
  obtain ⟨c1, c2, c3, c4⟩ := Lib.decodeN_conts (s.data.toList.length - i) (s.data.toList.getD i 0).toNat (s.data.toList.getD (i + 1) 0).toNat (s.data.toList.getD (i + 2) 0).toNat (s.data.toList.getD (i + 3) 0).toNat
  generalize (Lib.decodeN (s.data.toList.length - i) (s.data.toList.getD i 0).toNat (s.data.toList.getD (i + 1) 0).toNat (s.data.toList.getD (i + 2) 0).toNat (s.data.toList.getD (i + 3) 0).toNat).2 = wd at *
  have hj : j = i ∨ j = i + 1 ∨ j = i + 2 ∨ j = i + 3 := by omega
  rcases hj with rfl | rfl | rfl | rfl
  · exact ⟨h, key _ (by rw [hi0]; exact hb)⟩
  · have := c1 (by omega); exact ⟨by omega, key _ (by omega)⟩
  · have := c2 (by omega); exact ⟨by omega, key _ (by omega)⟩
  · have := c3 (by omega); exact ⟨by omega, key _ (by omega)⟩
theorem any_drop (l : List UInt8) : ∀ (n i : Nat), (∀ j, i ≤ j → j < i + n → j < l.length ∧ endsB (l.getD j 0) = false) → (l.drop i).any endsB = (l.drop (i + n)).any endsB := by
  intro n
  induction n with
  | zero => intro i _; rfl
  | succ n ih =>
    intro i h
    obtain ⟨h1, h2⟩ := h i (Nat.le_refl _) (by omega)
    have hd : l.drop i = l.getD i 0 :: l.drop (i + 1) := by
      rw [List.drop_eq_getElem_cons h1, List.getD_eq_getElem?_getD, List.getElem?_eq_getElem h1]; rfl
    rw [hd, List.any_cons, h2, Bool.false_or, ih (i + 1) (fun j h3 h4 => h j (by omega) (by omega))]
    congr 2
    omega
theorem ends_index : ∀ c : UInt8, decide (0 ≤ Lib.indexByte [13, 10] c) = endsB c := u8_all (by decide +kernel)
set_option maxHeartbeats 4000000 in
set_option maxRecDepth 1000000 in
theorem indexAny_short (s : ByteArray) (h8 : s.size ≤ 8) (w : World) :
    Calls Tryd.prog 56 #[.string s, .string ⟨#[13, 10]⟩] w fun e w' => (∃ n : Int, e = .returned (.int .i64 n) ∧ decide (0 ≤ n) = s.data.toList.any endsB) ∧ Below w.heap.size w w' := by
  have h8z : decide ((8 : Int) < (s.size : Int)) = false := decide_eq_false (by omega)
  go_enter Tryd.func56, Tryd.ntmps56
  go_wp2_with fail
  refine (Tryd.strings_shouldUseASCIISet _ _).mono ?_
  rintro e w' ⟨rfl, rfl⟩
  rw [h8z]
  go_wp2
  go_loopg [9, 10] s.size (fun g _ _ wx => ∃ i : Nat, i + g = s.size ∧ Hid (wx.heap[w'.heap.size]? = some (.stringIter s i)) ∧ Hid (Below w'.heap.size w' wx) ∧ Hid ((s.data.toList.drop i).any endsB = s.data.toList.any endsB))
  case atStart => exact ⟨0, by omega, Lib.hid (World.iter_heap _ _ _), Lib.hid (below_iter w' s 0), Lib.hid rfl⟩
  case round =>
    obtain ⟨i, hig, HK, HB, HA⟩ := hrel
    cases gk with
    | zero =>
      obtain rfl : i = s.size := by omega
      have hnx := fun ty => Lib.run_next_end_at (P := Tryd.prog) wr w'.heap.size s s.size ty HK.out (by omega)
      go_wp2
      go_ret
      refine ⟨⟨_, rfl, ?_⟩, HB.out⟩
      rw [← HA.out, List.drop_eq_nil_of_le (by simp)]; rfl
    | succ g =>
      have hi : i < s.size := by omega
      have hd : s.data.toList.drop i = s[i] :: s.data.toList.drop (i + 1) := by
        rw [List.drop_eq_getElem_cons (by simpa using hi)]; rfl
      by_cases ha : s[i].toNat < 128
      · have hnx := fun ty => Lib.run_next_ascii_at (P := Tryd.prog) wr w'.heap.size s i ty HK.out hi ha
        have HK2 : Hid ((wr.iterAt w'.heap.size s (i + 1)).heap[w'.heap.size]? = some (.stringIter s (i + 1))) := Lib.hid (Lib.iterAt_heap wr _ s i (i + 1) HK.out)
        have HB2 : Hid (Below w'.heap.size w' (wr.iterAt w'.heap.size s (i + 1))) := Lib.hid (Lib.below_iterAt HB.out (Nat.le_refl _) s _)
        have hcon := ends_index s[i]
        have hback : ((s[i].toNat : Int)).toNat.toUInt8 = s[i] := by simp
        have HBK := Lib.hid hback
        have HD := Lib.hid hd
        have h0 : (0 : Int) ≤ (s[i].toNat : Int) := by omega
        have h1 : (s[i].toNat : Int) < 128 := by omega
        clear hback hd
        cases hin : endsB s[i] with
        | false =>
          rw [hin] at hcon
          have hlt : ¬ (0 : Int) ≤ Lib.indexByte [13, 10] s[i] := of_decide_eq_false hcon
          have HA2 : Hid ((s.data.toList.drop (i + 1)).any endsB = s.data.toList.any endsB) := Lib.hid (by rw [← HA.out, HD.out, List.any_cons, hin, Bool.false_or])
          clear hcon hin HA
          go_wp2_with fail
          refine (Tryd.strings_IndexRune_ascii _ _ _ h0 h1).mono ?_
          rintro e w2 ⟨rfl, rfl⟩
          rw [HBK.out]
          go_wp2
          go_roundg g
          case measure => omega
          case rel => exact ⟨i + 1, by omega, HK2, HB2, HA2⟩
        | true =>
          rw [hin] at hcon
          have hge : (0 : Int) ≤ Lib.indexByte [13, 10] s[i] := of_decide_eq_true hcon
          have HA2 : Hid (s.data.toList.any endsB = true) := Lib.hid (by rw [← HA.out, HD.out, List.any_cons, hin, Bool.true_or])
          clear hcon hin HA
          go_wp2_with fail
          refine (Tryd.strings_IndexRune_ascii _ _ _ h0 h1).mono ?_
          rintro e w2 ⟨rfl, rfl⟩
          rw [HBK.out]
          go_wp2
          go_ret
          refine ⟨⟨_, rfl, ?_⟩, HB2.out⟩
          rw [HA2.out]; exact decide_eq_true (by omega)
      · have hb : 128 ≤ s[i].toNat := by omega
        obtain ⟨r1, r2⟩ := decode_high s i hi hb
        have r3 : (Utf8.decode s i).1 ≤ 1114111 := by rw [← Lib.decodeL_drop]; exact Lib.decodeL_rune _
        have hct := dec_conts s i hi hb
        obtain ⟨wd, hwd⟩ : ∃ n, (Utf8.decode s i).2 = n := ⟨_, rfl⟩
        obtain ⟨rr, hrr⟩ : ∃ n, (Utf8.decode s i).1 = n := ⟨_, rfl⟩
        have hnx := fun ty => Lib.run_next_any_at (P := Tryd.prog) wr w'.heap.size s i ty HK.out hi
        rw [hwd, hrr] at hnx
        rw [hrr] at r1 r3
        rw [hwd] at r2 hct
        have hle : i + wd ≤ s.size := by have := (hct (i + wd - 1) (by omega) (by omega)).1; omega
        have HK2 : Hid ((wr.iterAt w'.heap.size s (i + wd)).heap[w'.heap.size]? = some (.stringIter s (i + wd))) := Lib.hid (Lib.iterAt_heap wr _ s i (i + wd) HK.out)
        have HB2 : Hid (Below w'.heap.size w' (wr.iterAt w'.heap.size s (i + wd))) := Lib.hid (Lib.below_iterAt HB.out (Nat.le_refl _) s _)
        have HA2 : Hid ((s.data.toList.drop (i + wd)).any endsB = s.data.toList.any endsB) := Lib.hid (by
          rw [← HA.out]
          exact (any_drop s.data.toList wd i (fun j h1 h2 => ⟨by have := (hct j h1 h2).1; simpa using this, (hct j h1 h2).2⟩)).symm)
        have hsz : w'.heap.size < (wr.iterAt w'.heap.size s (i + wd)).heap.size := (Array.getElem?_eq_some_iff.1 HK2.out).1
        clear hct hd hwd hrr HA HK HB
        go_wp2_with fail
        refine (indexRune_crlf rr r1 r3 _).mono ?_
        rintro e w2 ⟨rfl, hb2⟩
        have HK3 : Hid (w2.heap[w'.heap.size]? = some (.stringIter s (i + wd))) := Lib.hid ((hb2.block _ hsz).trans HK2.out)
        have HB3 : Hid (Below w'.heap.size w' w2) := Lib.hid (HB2.out.trans (hb2.mono (by omega)))
        clear hb2 hsz
        go_wp2
        go_roundg (s.size - (i + wd))
        case measure => omega
        case rel => exact ⟨i + wd, by omega, HK3, HB3, HA2⟩
end Go.Proofs.YtomfdejamngkjaaDoor
