/- slices.DeleteFunc walked. -/
import Derived.Test.YtollfaphadcnnaaDoorDel
import Derived.Shelf.SlicesE.DeleteFunc
set_option linter.unusedVariables false
set_option linter.unusedSimpArgs false
namespace Go.Proofs.YtollfaphadcnnaaDoor
open Go.RowKit Go.Shelf Plain Pr Go.Proofs.YtollfaphadcnnaaDoorW.PrintWords
/-- What is handed back holds what is kept. -/
def DelPost (xs : List S29) (w0 : World) (e : Ending) (W : World) : Prop :=
  ∃ A c, e = .returned (.slice A (keepL xs).length c) ∧ (keepL xs).length ≤ c ∧ (keepL xs ≠ [] → ∃ g, A = some ⟨g, 0, none⟩ ∧ Row2 W g (keepL xs)) ∧ Below w0.heap.size w0 W
theorem idx_cases (xs : List S29) : (Lib.idxBy (fun _ y => bad y) xs default = -1 ∧ ∀ j, j < xs.length → bad (xs.getD j z29) = false) ∨
    ∃ k, k < xs.length ∧ Lib.idxBy (fun _ y => bad y) xs default = (k : Int) ∧ bad (xs.getD k z29) = true ∧ ∀ j, j < k → bad (xs.getD j z29) = false := by
  have hg : ∀ j, j < xs.length → xs[j]! = xs.getD j z29 := fun j hj => by
    rw [List.getD_eq_getElem?_getD, List.getElem!_eq_getElem?_getD, List.getElem?_eq_getElem hj]; rfl
  rcases idxByFrom_spec (fun _ y => bad y) default xs 0 with ⟨h1, h2⟩ | ⟨k, hk, h1, h2, h3⟩
  · exact .inl ⟨h1, fun j hj => by rw [← hg j hj]; exact h2 j hj⟩
  · exact .inr ⟨k, hk, by rw [Nat.zero_add] at h1; exact h1, by rw [← hg k hk]; exact h2, fun j hj => by rw [← hg j (by omega)]; exact h3 j hj⟩
theorem keep_all (xs : List S29) (h : ∀ j, j < xs.length → bad (xs.getD j z29) = false) : ∀ j, j ≤ xs.length → keepL (xs.take j) = xs.take j := by
  intro j
  induction j with
  | zero => intro _; rfl
  | succ j ih =>
    intro hj
    rw [keep_step xs j (by omega), h j (by omega), ih (by omega), List.take_add_one, List.getElem?_eq_getElem (by omega), List.getD_eq_getElem?_getD, List.getElem?_eq_getElem (by omega)]
    simp
theorem DI.start (xs : List S29) (g : Nat) (w0 W : World) (k : Nat) (hk : k < xs.length) (h1 : bad (xs.getD k z29) = true) (h2 : ∀ j, j < k → bad (xs.getD j z29) = false) (hr : Row2 W g xs) (hb : Below w0.heap.size w0 W) : DI xs g w0 k (k + 1) xs W := by
  have h3 : ∀ j, j ≤ k → keepL (xs.take j) = xs.take j := by
    intro j
    induction j with
    | zero => intro _; rfl
    | succ j ih =>
      intro hj
      rw [keep_step xs j (by omega), h2 j (by omega), ih (by omega), List.take_add_one, List.getElem?_eq_getElem (by omega), List.getD_eq_getElem?_getD, List.getElem?_eq_getElem (by omega)]
      simp
  refine ⟨rfl, by omega, hk, ?_, rfl, hr, hb⟩
  rw [keep_step xs k hk, h1, h3 k (Nat.le_refl _)]
  simp
theorem box_at {W W' : World} {cs : Array Value} {t : TypeId} (hb : Below (W.alloc (.cells cs t)).heap.size (W.alloc (.cells cs t)) W') (i : Nat) (v : Value) (hv : cs[i]? = some v) : W'.cell? ⟨W.heap.size, i, none⟩ = some v := by
  refine (hb.cell (p := ⟨W.heap.size, i, none⟩) (by simp)).trans ?_
  unfold World.cell?
  rw [show (W.alloc (.cells cs t)).heap[W.heap.size]? = some (.cells cs t (0, 0)) from heap_alloc_new W _]
  simpa using hv
theorem Row2.cut {W : World} {g : Nat} {cur : List S29} (h : Row2 W g cur) (i : Nat) (hi : i ≤ cur.length) (vs : List Value) : Row2 (W.setCells g (i * 2) vs) g (cur.take i) := by
  have hl : (cur.take i).length = i := by rw [List.length_take]; omega
  have hs : ∀ (vs : List Value) (o : Nat) (W : World), (W.setCells g o vs).heap.size = W.heap.size := by
    intro vs
    induction vs with
    | nil => intro o W; rfl
    | cons v r ih => intro o W; show ((W.setCell _ _).setCells g (o + 1) r).heap.size = _; rw [ih]; simp
  have hg : ∀ j, j < i → (cur.take i).getD j z29 = cur.getD j z29 := fun j hj => by
    rw [List.getD_eq_getElem?_getD, List.getElem?_take, if_pos hj, List.getD_eq_getElem?_getD]
  refine ⟨by rw [hs]; exact h.lt, fun j hj => ?_, fun j hj => ?_, fun o => ?_⟩
  · rw [hl] at hj
    rw [World.cell?_setCells_out g vs (i * 2) W _ (fun _ _ => .inl (by show j * 2 < i * 2; omega)), hg j hj]
    exact h.c0 j (by omega)
  · rw [hl] at hj
    rw [World.cell?_setCells_out g vs (i * 2) W _ (fun _ _ => .inl (by show j * 2 + 1 < i * 2; omega)), hg j hj]
    exact h.c1 j (by omega)
  · rw [World.frozen?_setCells]
    exact h.fr o
theorem below_cells {B g : Nat} {a : World} (hg : B ≤ g) : ∀ (vs : List Value) (o : Nat) (w : World), Below B a w → Below B a (w.setCells g o vs)
  | [], _, _, h => h
  | v :: r, o, w, h => below_cells hg r (o + 1) _ (h.setCell (p := ⟨g, o, none⟩) hg v)
set_option maxHeartbeats 4000000 in
theorem delf_any (xs : List S29) (A : Option Addr) (c : Nat) (ok : Nat → Prop) (w0 w : World) (hN : NmAt w0) (hB : Below w0.heap.size w0 w) (hr : Kd.R k29 29 w w0.heap.size ok (.slice A xs.length c) xs) (hl : xs.length ≤ 2000000) :
    Calls Tryd.prog 25 #[.slice A xs.length c, .func (.func 26) #[] #[]] w (DelPost xs w0) := by
  by_cases h0 : xs = []
  · subst h0
    have HB := Lib.hid hB
    clear hB hr hN
    simp only [List.length_nil] at *
    go_enter Tryd.func25, Tryd.ntmps25
    go_wp2_with (first | (go_at_call 42; refine (idx_empty _ _ _ _).mono ?_; rintro e w' ⟨rfl, rfl⟩))
    go_ret
    exact ⟨A, c, rfl, Nat.zero_le _, fun h => absurd rfl h, HB.out⟩
  · have hn : 0 < xs.length := List.length_pos_iff.2 h0
    obtain ⟨g, rfl, hg, hrow, _, hnc, hcm⟩ := Row2.of_R hr hn
    have hcells := hrow.cells 0
    simp only [List.drop_zero, Nat.zero_mul] at hcells
    have hidx := Tryd.slices_IndexFunc 2 agg29 siz29 enc2 (fun _ => rfl) bad 26 #[] enters26 g 0 xs.length c xs w (pred26 w (hN.below hB)) (Nat.le_refl _) (by omega) hrow.lt hcells
    rw [List.take_length] at hidx
    have HNC := Lib.hid hnc
    unfold maxLen at hcm
    rcases idx_cases xs with ⟨e1, hall⟩ | ⟨k, hk, e1, hbk, hall⟩
    · rw [e1] at hidx
      have hk := keep_all xs hall xs.length (Nat.le_refl _)
      rw [List.take_length] at hk
      have HK := Lib.hid hk
      have HB := Lib.hid hB
      have HR := Lib.hid hrow
      have HI := Lib.hid hidx
      clear hr hk hB hrow hall e1 hidx hcells hN h0
      go_enter Tryd.func25, Tryd.ntmps25
      go_wp2_with (first | (go_at_call 42; refine HI.out.mono ?_; rintro e w' ⟨rfl, hb⟩))
      go_ret
      refine ⟨some ⟨g, 0, none⟩, c, by rw [HK.out]; rfl, by rw [HK.out]; exact HNC.out, fun _ => ⟨g, rfl, ?_⟩, below_step HB.out hb⟩
      rw [HK.out]
      exact HR.out.below hb
    · rw [e1] at hidx
      have HI := Lib.hid hidx
      have HB := Lib.hid hB
      have HN := Lib.hid hN
      have HS : ∀ W, Below w.heap.size w W → Hid (DI xs g w0 k (k + 1) xs W) := fun W hW => Lib.hid (DI.start xs g w0 W k hk hbk hall (hrow.below hW) (below_step hB hW))
      have HSt := Lib.hid HS
      clear hr hB hrow hall e1 hidx hcells hN h0 hbk HS
      have hk1 : ((k : Int) == -1) = false := by rw [beq_eq_false_iff_ne]; omega
      go_enter Tryd.func25, Tryd.ntmps25
      go_wp2_with (first | (go_at_call 42; refine HI.out.mono ?_; rintro e w' ⟨rfl, hb⟩))
      have HD := HSt.out _ hb
      clear hb HSt HI
      go_loopw [5, 6] (fun s5 s6 wr => ∃ (i j : Nat) (cur : List S29), s5 = .int .i64 i ∧ s6 = .int .i64 j ∧ j ≤ xs.length ∧ i < j ∧ Hid (DI xs g w0 i j cur wr)) (fun _ s6 _ => xs.length - (intOf s6).toNat)
      case atStart => exact ⟨k, k + 1, xs, rfl, by go_num, by omega, by omega, HD⟩
      case round =>
        obtain ⟨i, j, cur, rfl, rfl, hj, hij, HI⟩ := hrel
        by_cases hlt : j < xs.length
        · have hgj := HI.out.get hlt
          have hcl : j < cur.length := by rw [HI.out.len]; exact hlt
          have hc0 := HI.out.row.c0 j hcl
          have hc1 := HI.out.row.c1 j hcl
          have hil : i < cur.length := by omega
          have hd0 := HI.out.row.c0 i hil
          have hd1 := HI.out.row.c1 i hil
          have hfr := HI.out.row.fr
          rw [hgj] at hc0 hc1
          have hglt := HI.out.row.lt
          have HX : Hid (∀ b, bad (xs.getD j z29) = b → bad (xs.getD j z29) = b) := Lib.hid (fun _ h => h)
          obtain ⟨x, hx⟩ : ∃ x, xs.getD j z29 = x := ⟨_, rfl⟩
          rw [hx] at hc0 hc1
          have hltz : (j : Int) < (xs.length : Int) := by omega
          have hjz : (0 : Int) ≤ (j : Int) := by omega
          have HXX := Lib.hid hx
          clear hx hgj HX hcl hil
          generalize cur.getD i z29 = y at hd0 hd1
          obtain ⟨q, hq⟩ : ∃ q, bad x = q := ⟨_, rfl⟩
          have HQ := Lib.hid hq
          have hcall : ∀ W, NmAt W → Calls Tryd.prog 26 #[.agg #[.string x.f0, .string x.f1]] W fun e w' => e = .returned (.bool q) ∧ Below W.heap.size W w' := fun W hW => by
            have := del_any x W hW
            rw [hq] at this
            exact this
          have HC := Lib.hid hcall
          clear hcall hq
          have hil : i < cur.length := by rw [HI.out.len]; omega
          have HIL := Lib.hid hil
          clear hil hd0 hd1
          cases q
          all_goals
            go_wp2_with fail
            refine (HC.out _ (HN.out.below (below_alloc HI.out.bel _))).mono ?_
            rintro e w2 ⟨rfl, hb⟩
            have HW := Lib.hid ((HI.out.below (below_alloc (Below.refl _ _) _)).below hb)
            have b0 := box_at hb 0 _ rfl
            have b1 := box_at hb 1 _ rfl
            have d0 := HW.out.row.c0 i HIL.out
            have d1 := HW.out.row.c1 i HIL.out
            have fr2 := HW.out.row.fr
            generalize cur.getD i z29 = y at d0 d1
            have hglt2 := HW.out.row.lt
            clear hb hc0 hc1 hfr hglt HI
            go_wp2
          · go_roundw
            case rel =>
              refine ⟨i + 1, j + 1, cur.set i (xs.getD j z29), by go_num, by go_num, by omega, by omega, Lib.hid (HW.out.keep hlt (by rw [HXX.out]; exact HQ.out) ?_ ?_)⟩
              · rw [HXX.out]
                exact HW.out.row.set i HIL.out x.f0 x.f1
              · exact (HW.out.bel.setCell (p := ⟨g, i * 2, none⟩) hg _).setCell (p := ⟨g, i * 2 + 1, none⟩) hg _
            case measure => simp [intOf]; omega
          · go_roundw
            case rel => exact ⟨i, j + 1, cur, rfl, by go_num, by omega, by omega, Lib.hid (HW.out.skip hlt (by rw [HXX.out]; exact HQ.out))⟩
            case measure => simp [intOf]; omega
        · obtain rfl : j = xs.length := by omega
          have hltz : ¬ (xs.length : Int) < (xs.length : Int) := by omega
          have hlen := HI.out.len
          have hrow := HI.out.row
          have hle : ∀ t, t < (xs.length - i) * 2 → i * 2 + t < xs.length * 2 := fun t ht => by omega
          have hin : ∀ t, t < (xs.length - i) * 2 → (wr.cell? ⟨g, i * 2 + t, none⟩).isSome = true := fun t ht => by
            obtain ⟨q, hq⟩ : ∃ q, i * 2 + t = q * 2 ∨ i * 2 + t = q * 2 + 1 := ⟨(i * 2 + t) / 2, by omega⟩
            have := hle t ht
            rcases hq with hq | hq
            · rw [hq, hrow.c0 q (by omega)]; rfl
            · rw [hq, hrow.c1 q (by omega)]; rfl
          have hcl : ∀ ty, (Builtin.clear_ #[25] ty #[.slice (some ⟨g, i * 2, none⟩) (xs.length - i) (c - i)]).run Tryd.prog wr = .ok (.tuple #[]) (wr.setCells g (i * 2) (List.replicate ((xs.length - i) * 2) (.string ⟨#[]⟩))) :=
            fun ty => run_clear2 wr 25 29 ty (.agg #[.string ⟨#[]⟩, .string ⟨#[]⟩]) (.string ⟨#[]⟩) Tryd.underlying25 Tryd.zeroValue29 rfl rfl g (i * 2) _ _ (by omega) hin (fun t _ => hrow.fr _)
          have HI2 := HI
          have i1 : (i : Int) ≤ (xs.length : Int) := by omega
          have i2 : (i : Int) ≤ (c : Int) := by omega
          have i3 : ¬ (c : Int) = (i : Int) := by omega
          have i4 : ¬ c = i := by omega
          clear hin hle hrow hlen HI
          go_wp2
          go_ret
          have hlo := HI2.out.lo
          rw [List.take_length] at hlo
          have hln : (keepL xs).length = i := by rw [← hlo, List.length_take, HI2.out.len]; omega
          refine ⟨some ⟨g, 0, none⟩, c, by rw [hln]; rfl, by rw [hln]; omega, fun _ => ⟨g, rfl, ?_⟩, below_cells hg _ _ _ HI2.out.bel⟩
          have hC := HI2.out.row.cut i (by rw [HI2.out.len]; omega) (List.replicate ((xs.length - i) * 2) (.string ⟨#[]⟩))
          rw [hlo] at hC
          exact hC
end Go.Proofs.YtollfaphadcnnaaDoor
