/- A message written. -/
import Derived.Test.YtomfdejamngkjaaDoorGet
import Derived.Shelf.Strings.SlTrimAscii
import Derived.WalkSpells
set_option linter.unusedVariables false
set_option linter.unusedSimpArgs false
namespace Go.Proofs.YtomfdejamngkjaaDoor
open Go.RowKit Plain Pr Go.Proofs.YtomfdejamngkjaaDoorW.PrintWords
def ws : List UInt8 := [32, 9]
theorem trim_any (s : ByteArray) (w : World) (hs : s.size ≤ 9223372036854775807) :
    Calls Tryd.prog 27 #[.string s, .string ⟨#[32, 9]⟩] w fun e w' => e = .returned (.string ⟨(Lib.trimS s.data.toList ws).toArray⟩) ∧ Below w.heap.size w w' :=
  Any.strings_Trim_laid Tryd.lays160 (by kernel_rfl) s ⟨#[32, 9]⟩ w hs (by decide) (ascii_of_all (by decide))
theorem trimRight_any (s : ByteArray) (w : World) (hs : s.size ≤ 9223372036854775807) :
    Calls Tryd.prog 31 #[.string s, .string ⟨#[32, 9]⟩] w fun e w' => e = .returned (.string ⟨(Lib.trimRightS s.data.toList ws).toArray⟩) ∧ Below w.heap.size w w' :=
  Any.strings_TrimRight_laid Tryd.lays162 (by kernel_rfl) s ⟨#[32, 9]⟩ w hs (by decide) (ascii_of_all (by decide))
theorem zero71 : ∀ w, (zeroValue 71).run Tryd.prog w = .ok (.agg (Array.replicate 256 (.bool false))) w := fun w => by kernel_rfl
theorem indexAny_ends : ∀ l : List UInt8, -1 ≤ Lib.indexAny l [13, 10] ∧ decide (0 ≤ Lib.indexAny l [13, 10]) = l.any endsB
  | [] => ⟨by decide, rfl⟩
  | c :: l => by
    obtain ⟨h1, h2⟩ := indexAny_ends l
    have hc : ([13, 10] : List UInt8).contains c = endsB c := by simp [endsB, List.contains, List.elem, Bool.or_comm]; cases c == 13 <;> cases c == 10 <;> rfl
    unfold Lib.indexAny
    rw [List.any_cons, hc]
    cases he : endsB c with
    | true => rw [if_pos rfl]; exact ⟨by decide, by simp⟩
    | false =>
      rw [if_neg (by simp), Bool.false_or, ← h2]
      by_cases hm : Lib.indexAny l [13, 10] = -1
      · rw [hm]; exact ⟨by decide, by decide⟩
      · have hb : (Lib.indexAny l [13, 10] == -1) = false := by simpa using hm
        rw [hb]
        refine ⟨by simp; omega, ?_⟩
        simp only [Bool.false_eq_true, if_false]
        rw [decide_eq_decide]; omega
set_option maxHeartbeats 1000000 in
theorem containsAny_any (s : ByteArray) (w : World) (hs : s.size < 4294967281) :
    Calls Tryd.prog 38 #[.string s, .string ⟨#[13, 10]⟩] w fun e w' => e = .returned (.bool (s.data.toList.any endsB)) ∧ Below w.heap.size w w' := by
  have key : ∃ n : Int, decide (0 ≤ n) = s.data.toList.any endsB ∧ Calls Tryd.prog 56 #[.string s, .string ⟨#[13, 10]⟩] w fun e w' => (∃ m : Int, e = .returned (.int .i64 m) ∧ decide (0 ≤ m) = s.data.toList.any endsB) ∧ Below w.heap.size w w' := by
    obtain ⟨h1, h2⟩ := indexAny_ends s.data.toList
    refine ⟨_, h2, ?_⟩
    by_cases h8 : s.size ≤ 8
    · exact indexAny_short s h8 w
    · refine (Tryd.strings_IndexAny_long zero71 s ⟨#[13, 10]⟩ w (by decide) (by omega) hs (by decide) (ascii_of_all (by decide))).mono ?_
      rintro e w' ⟨rfl, rfl⟩
      exact ⟨⟨_, rfl, h2⟩, ((Below.refl _ w).alloc (Nat.le_refl _) _).alloc (by simp) _⟩
  obtain ⟨_, _, hcall⟩ := key
  have HC := Lib.hid hcall
  clear hcall
  go_enter Tryd.func38, Tryd.ntmps38
  go_wp2_with fail
  refine HC.out.mono ?_
  rintro e w2 ⟨⟨m, rfl, hm⟩, hb⟩
  have HM := Lib.hid hm
  have HB := Lib.hid hb
  clear hm hb
  go_wp2
  go_ret
  refine ⟨?_, HB.out⟩
  show Ending.returned (.bool (decide (0 ≤ m))) = _
  rw [HM.out]
/-- May a field be written? -/
def okF (x : S29) : Bool := nameB x.f0.data.toList && (!x.f1.data.toList.any endsB && Lib.trimS x.f1.data.toList ws == x.f1.data.toList)
def fieldL (x : S29) : List UInt8 := x.f0.data.toList ++ [58, 32] ++ x.f1.data.toList ++ [13, 10]
def fieldsL (l : List S29) : List UInt8 := (l.map fieldL).flatten
/-- What Write answers. -/
def writeL (l : List S29) (body : ByteArray) : ByteArray × Int :=
  if l.all okF then (if l.length ≤ 500 then (⟨(fieldsL l ++ [13, 10] ++ body.data.toList).toArray⟩, 0) else (⟨#[]⟩, 3)) else (⟨#[]⟩, 1)
def sizeOk (x : S29) : Bool := decide (x.f0.size ≤ 1000000 ∧ x.f1.size ≤ 1000000)
section
variable {P : Program} {ops : Array Oper} {md : Region.Mode} {Q : Exit → Act → World → Prop} {S : World → Prop}
theorem take_h {i : Nat} {N : Option Tmp} {oi : Oper} {v : Value} {fuel : Nat} {l : Array Bool} {a a' : Act} {w : World} (hi : ops[i]? = some oi) (hN : oi.dst = N)
    (hs : Region.noSelect ops = true) (hf : Region.free md ops l i = true) (hr : (Region.ready md ops l).contains i = true)
    (hQ : ∀ c a w, Q (.panic c) (a.put oi.dst v) w → Q (.panic c) a w) (hy : YieldsIf P ops S oi v a) (hS : S w) (ha : a.put N v = a')
    (h : wpAnyH P md ops Q S fuel (l.setIfInBounds i true) a' w) : wpAnyH P md ops Q S (fuel + 1) l a w := by
  subst ha
  subst hN
  exact wpAnyH_take hi hs hf hr hQ hy hS h
end
theorem fieldsL_append (a b : List S29) : fieldsL (a ++ b) = fieldsL a ++ fieldsL b := by simp [fieldsL]
theorem byteCells_append (a b : List UInt8) : Lib.byteCells (a ++ b) = Lib.byteCells a ++ Lib.byteCells b := by simp [Lib.byteCells]
theorem fields_len (l : List S29) : ∀ k, l.all sizeOk = true → k ≤ l.length → (fieldsL (l.take k)).length ≤ 2000004 * k := by
  intro k
  induction k with
  | zero => intro _ _; simp [fieldsL]
  | succ k ih =>
    intro h hk
    have h1 := ih h (by omega)
    rw [List.take_succ_eq_append_getElem (by omega), fieldsL_append, List.length_append]
    have h2 : sizeOk l[k] = true := List.all_eq_true.1 h _ (List.getElem_mem _)
    unfold sizeOk at h2
    obtain ⟨h3, h4⟩ := of_decide_eq_true h2
    have e : (fieldsL [l[k]]).length = l[k].f0.size + 2 + l[k].f1.size + 2 := by simp [fieldsL, fieldL]; omega
    omega
theorem isBuilder_below {T e : TypeId} {B b : Nat} {bs : List Value} {w w' : World} (h : Lib.IsBuilder T e B b bs w) (hb : Below w.heap.size w w') : Lib.IsBuilder T e B b bs w' := by
  have go : ∀ {p : Value}, Lib.BuilderAt T e B b p bs w → Lib.BuilderAt T e B b p bs w' := fun h => by
    have hlt := h.lt
    obtain ⟨hB, v, hbk, hown, hne⟩ := h
    exact ⟨hB, v, (hb.block b hlt).trans hbk, own_move hown (fun k hk => hb.block k (hown.lt k hk).2), hne⟩
  exact h.imp go go
set_option maxHeartbeats 8000000 in
set_option maxRecDepth 100000 in
theorem write_any (l : List S29) (body : ByteArray) (A : Option Addr) (c : Nat) (w : World) (hr : Kd.C k29 w A l.length l) (hlc : l.length ≤ c) (hl : l.length ≤ 1000) (hsz : l.all sizeOk = true) (hbd : body.size ≤ 1000000000) :
    Calls Tryd.prog 20 #[.slice A l.length c, .string body] w fun e w' => e = .returned (.tuple #[.string (writeL l body).1, .int .i64 (writeL l body).2]) ∧ Below w.heap.size w w' := by
  have HR := Lib.hid hr
  have HSZ := Lib.hid hsz
  have HW0 : Hid (Lib.IsBuilder 62 5 w.heap.size w.heap.size [] (w.alloc (.cells #[.pointer none, .slice none 0 0] 62))) := Lib.hid (.inl ⟨Nat.le_refl _, .slice none 0 0, heap_alloc_new w _, ⟨rfl, .inl ⟨rfl, rfl⟩⟩, by simp [Value.ownBlock]⟩)
  have HBW0 : Hid (Below w.heap.size w (w.alloc (.cells #[.pointer none, .slice none 0 0] 62))) := Lib.hid ((Below.refl _ w).alloc (Nat.le_refl _) _)
  clear hr hsz
  go_enter Tryd.func20, Tryd.ntmps20
  go_wp2
  go_loopw [11] (fun i wr => ∃ k : Nat, k ≤ l.length ∧ i = .int .i64 k ∧ Hid (Lib.IsBuilder 62 5 w.heap.size w.heap.size (Lib.byteCells (fieldsL (l.take k))) wr) ∧ Hid (Below w.heap.size w wr) ∧ Hid ((l.take k).all okF = true)) (fun i _ => l.length - (intOf i).toNat)
  case atStart => exact ⟨0, Nat.zero_le _, rfl, HW0, HBW0, Lib.hid rfl⟩
  case round =>
    obtain ⟨k, hk, rfl, HBLD, HB, HA⟩ := hrel
    by_cases hlt : k < l.length
    · obtain ⟨b, o, rfl, hb, hcs⟩ := row29 HR.out (by omega)
      obtain ⟨h1, h2⟩ := hcs k hlt
      have c1 := (HB.out.cell (p := ⟨b, o + k * 2, none⟩) hb).trans h1
      have c2 := (HB.out.cell (p := ⟨b, o + k * 2 + 1, none⟩) hb).trans h2
      have hso : sizeOk l[k] = true := List.all_eq_true.1 HSZ.out _ (List.getElem_mem hlt)
      unfold sizeOk at hso
      obtain ⟨hs1, hs2⟩ := of_decide_eq_true hso
      have HTK : Hid (l.take (k + 1) = l.take k ++ [l[k]]) := Lib.hid (by rw [List.take_succ_eq_append_getElem hlt])
      have hmem : l[k] ∈ l := List.getElem_mem hlt
      generalize hxk : l[k] = x at *
      have HXK := Lib.hid hxk
      have HMEM := Lib.hid hmem
      have hp : (0 : Int) ≤ (k : Int) := by omega
      have hq : (k : Int) < (l.length : Int) := by omega
      clear hxk h1 h2 hcs hso hmem
      have HBLD1 : Hid (Lib.IsBuilder 62 5 w.heap.size w.heap.size (Lib.byteCells (fieldsL (l.take k))) (wr.alloc (Obj.cells #[.string x.f0, .string x.f1] 29))) := Lib.hid (isBuilder_alloc HBLD.out _)
      have HB1 : Hid (Below w.heap.size w (wr.alloc (Obj.cells #[.string x.f0, .string x.f1] 29))) := Lib.hid (HB.out.alloc HB.out.size _)
      have hk0 : (wr.alloc (Obj.cells #[.string x.f0, .string x.f1] 29)).heap[wr.heap.size]? = some (.cells #[.string x.f0, .string x.f1] 29 (0, 0)) := heap_alloc_new wr _
      have hk1 : (wr.alloc (Obj.cells #[.string x.f0, .string x.f1] 29)).cell? ⟨wr.heap.size, 0, none⟩ = some (.string x.f0) := by rw [Lib.cell_of_heap hk0]; rfl
      have hk2 : (wr.alloc (Obj.cells #[.string x.f0, .string x.f1] 29)).cell? ⟨wr.heap.size, 1, none⟩ = some (.string x.f1) := by rw [Lib.cell_of_heap hk0]; rfl
      clear hk0
      go_wp2_with fail
      generalize hn0 : wr.heap.size = n0 at *
      generalize (wr.alloc (Obj.cells #[.string x.f0, .string x.f1] 29)) = w1 at *
      clear hn0 c1 c2
      have hs0 : w1.cell? ⟨n0, 0, none⟩ = some (.string x.f0) ∧ w1.cell? ⟨n0, 1, none⟩ = some (.string x.f1) ∧ Below w1.heap.size w1 w1 := ⟨hk1, hk2, Below.refl _ _⟩
      clear hk1 hk2
      have keepS : ∀ (W W' : World), (W.cell? ⟨n0, 0, none⟩ = some (.string x.f0) ∧ W.cell? ⟨n0, 1, none⟩ = some (.string x.f1) ∧ Below w1.heap.size w1 W) → Below W.heap.size W W' → (W'.cell? ⟨n0, 0, none⟩ = some (.string x.f0) ∧ W'.cell? ⟨n0, 1, none⟩ = some (.string x.f1) ∧ Below w1.heap.size w1 W') := by
        rintro W W' ⟨h1, h2, h3⟩ hb
        exact ⟨(hb.cell (p := ⟨n0, 0, none⟩) (World.block_lt_of_cell? W _ h1)).trans h1, (hb.cell (p := ⟨n0, 1, none⟩) (World.block_lt_of_cell? W _ h2)).trans h2, h3.trans (hb.mono h3.size)⟩
      have HKS := Lib.hid keepS
      have HN := Lib.hid (isName_any x.f0)
      have HE := Lib.hid (fun W => containsAny_any x.f1 W (by omega))
      have HT := Lib.hid (fun W => trim_any x.f1 W (by omega))
      have HOK : Hid (okF x = (nameB x.f0.data.toList && (!x.f1.data.toList.any endsB && Lib.trimS x.f1.data.toList ws == x.f1.data.toList))) := Lib.hid rfl
      have HBAD : Hid (okF x = false → writeL l body = (⟨#[]⟩, 1)) := Lib.hid (fun h => by
        unfold writeL
        rw [if_neg]
        intro h2
        have := List.all_eq_true.1 h2 x HMEM.out
        rw [h] at this; cases this)
      have HFIN : Hid (∀ W, Below w1.heap.size w1 W → Below w.heap.size w W) := Lib.hid (fun W h => HB1.out.trans (h.mono HB1.out.size))
      clear keepS HBLD HB
      cases hnm : nameB x.f0.data.toList with
      | false =>
        rw [hnm] at HN HOK
        clear hnm
        refine wp_region_held_drew (S := fun w' => w'.cell? ⟨n0, 0, none⟩ = some (.string x.f0) ∧ w'.cell? ⟨n0, 1, none⟩ = some (.string x.f1) ∧ Below w1.heap.size w1 w') (by kernel_rfl) ⟨hs0.1, hs0.2.1, hs0.2.2.drew⟩ (fun hHeld => ?_)
        refine take_h (i := 0) (N := some 15) (v := ?_) (a' := ?_) rfl rfl (by kernel_rfl) (by kernel_rfl) (by kernel_rfl) (fun _ _ _ h => h) (Or.inl ⟨by rfl, ?_⟩) (by with_reducible assumption) ?_ ?_
        rotate_left 2
        · intro w' hSw
          try dsimp only at hSw
          go_simp
          try with_reducible rfl
        · simp only [Act.put, List.setIfInBounds_toArray, List.set_cons_zero, List.set_cons_succ]
          rfl
        refine take_h (i := 1) (N := some 16) (v := ?_) (a' := ?_) rfl rfl (by kernel_rfl) (by kernel_rfl) (by kernel_rfl) (fun _ _ _ h => h) (Or.inl ⟨by rfl, ?_⟩) (by with_reducible assumption) ?_ ?_
        rotate_left 2
        · intro w' hSw
          try dsimp only at hSw
          go_simp
          try with_reducible rfl
        · simp only [Act.put, List.setIfInBounds_toArray, List.set_cons_zero, List.set_cons_succ]
          rfl
        refine wpAnyH_ready (rs := [2]) (by kernel_rfl) (by simp) (AllReadyH.cons rfl (fun K hK => ?_) AllReadyH.nil)
        go_simp
        refine (HN.out _).mono ?_; rintro e w2 ⟨rfl, hb2⟩; have hs2 := HKS.out _ _ hHeld hb2; clear hb2
        dsimp only
        refine hK.out _ _ hs2 (fun hHeld => ?_)
        clear hK K
        try simp only [Act.put, List.setIfInBounds_toArray, List.set_cons_zero, List.set_cons_succ]
        refine take_h (i := 3) (N := some 18) (v := ?_) (a' := ?_) rfl rfl (by kernel_rfl) (by kernel_rfl) (by kernel_rfl) (fun _ _ _ h => h) (Or.inl ⟨by rfl, ?_⟩) (by with_reducible assumption) ?_ ?_
        rotate_left 2
        · intro w' hSw
          try dsimp only at hSw
          go_simp
          try with_reducible rfl
        · simp only [Act.put, List.setIfInBounds_toArray, List.set_cons_zero, List.set_cons_succ]
          rfl
        refine take_h (i := 4) (N := some 19) (v := ?_) (a' := ?_) rfl rfl (by kernel_rfl) (by kernel_rfl) (by kernel_rfl) (fun _ _ _ h => h) (Or.inl ⟨by rfl, ?_⟩) (by with_reducible assumption) ?_ ?_
        rotate_left 2
        · intro w' hSw
          try dsimp only at hSw
          go_simp
          try with_reducible rfl
        · simp only [Act.put, List.setIfInBounds_toArray, List.set_cons_zero, List.set_cons_succ]
          rfl
        refine take_h (i := 5) (N := some 20) (v := undef) (a' := ?_) rfl rfl (by kernel_rfl) (by kernel_rfl) (by kernel_rfl) (fun _ _ _ h => h) (Or.inr ⟨by rfl, rfl⟩) (by with_reducible assumption) ?_ ?_
        rotate_left
        · simp only [Act.put, List.setIfInBounds_toArray, List.set_cons_zero, List.set_cons_succ]
          rfl
        refine take_h (i := 6) (N := some 21) (v := undef) (a' := ?_) rfl rfl (by kernel_rfl) (by kernel_rfl) (by kernel_rfl) (fun _ _ _ h => h) (Or.inr ⟨by rfl, rfl⟩) (by with_reducible assumption) ?_ ?_
        rotate_left
        · simp only [Act.put, List.setIfInBounds_toArray, List.set_cons_zero, List.set_cons_succ]
          rfl
        refine take_h (i := 7) (N := some 22) (v := undef) (a' := ?_) rfl rfl (by kernel_rfl) (by kernel_rfl) (by kernel_rfl) (fun _ _ _ h => h) (Or.inr ⟨by rfl, rfl⟩) (by with_reducible assumption) ?_ ?_
        rotate_left
        · simp only [Act.put, List.setIfInBounds_toArray, List.set_cons_zero, List.set_cons_succ]
          rfl
        refine take_h (i := 8) (N := some 23) (v := ?_) (a' := ?_) rfl rfl (by kernel_rfl) (by kernel_rfl) (by kernel_rfl) (fun _ _ _ h => h) (Or.inl ⟨by rfl, ?_⟩) (by with_reducible assumption) ?_ ?_
        rotate_left 2
        · intro w' hSw
          try dsimp only at hSw
          go_simp
          try with_reducible rfl
        · simp only [Act.put, List.setIfInBounds_toArray, List.set_cons_zero, List.set_cons_succ]
          rfl
        refine take_h (i := 9) (N := some 24) (v := ?_) (a' := ?_) rfl rfl (by kernel_rfl) (by kernel_rfl) (by kernel_rfl) (fun _ _ _ h => h) (Or.inl ⟨by rfl, ?_⟩) (by with_reducible assumption) ?_ ?_
        rotate_left 2
        · intro w' hSw
          try dsimp only at hSw
          go_simp
          try with_reducible rfl
        · simp only [Act.put, List.setIfInBounds_toArray, List.set_cons_zero, List.set_cons_succ]
          rfl
        refine take_h (i := 10) (N := some 25) (v := undef) (a' := ?_) rfl rfl (by kernel_rfl) (by kernel_rfl) (by kernel_rfl) (fun _ _ _ h => h) (Or.inr ⟨by rfl, rfl⟩) (by with_reducible assumption) ?_ ?_
        rotate_left
        · simp only [Act.put, List.setIfInBounds_toArray, List.set_cons_zero, List.set_cons_succ]
          rfl
        refine take_h (i := 11) (N := some 26) (v := undef) (a' := ?_) rfl rfl (by kernel_rfl) (by kernel_rfl) (by kernel_rfl) (fun _ _ _ h => h) (Or.inr ⟨by rfl, rfl⟩) (by with_reducible assumption) ?_ ?_
        rotate_left
        · simp only [Act.put, List.setIfInBounds_toArray, List.set_cons_zero, List.set_cons_succ]
          rfl
        refine take_h (i := 12) (N := some 27) (v := undef) (a' := ?_) rfl rfl (by kernel_rfl) (by kernel_rfl) (by kernel_rfl) (fun _ _ _ h => h) (Or.inr ⟨by rfl, rfl⟩) (by with_reducible assumption) ?_ ?_
        rotate_left
        · simp only [Act.put, List.setIfInBounds_toArray, List.set_cons_zero, List.set_cons_succ]
          rfl
        refine take_h (i := 13) (N := some 28) (v := undef) (a' := ?_) rfl rfl (by kernel_rfl) (by kernel_rfl) (by kernel_rfl) (fun _ _ _ h => h) (Or.inr ⟨by rfl, rfl⟩) (by with_reducible assumption) ?_ ?_
        rotate_left
        · simp only [Act.put, List.setIfInBounds_toArray, List.set_cons_zero, List.set_cons_succ]
          rfl
        refine take_h (i := 14) (N := some 29) (v := undef) (a' := ?_) rfl rfl (by kernel_rfl) (by kernel_rfl) (by kernel_rfl) (fun _ _ _ h => h) (Or.inr ⟨by rfl, rfl⟩) (by with_reducible assumption) ?_ ?_
        rotate_left
        · simp only [Act.put, List.setIfInBounds_toArray, List.set_cons_zero, List.set_cons_succ]
          rfl
        refine take_h (i := 15) (N := some 30) (v := undef) (a' := ?_) rfl rfl (by kernel_rfl) (by kernel_rfl) (by kernel_rfl) (fun _ _ _ h => h) (Or.inr ⟨by rfl, rfl⟩) (by with_reducible assumption) ?_ ?_
        rotate_left
        · simp only [Act.put, List.setIfInBounds_toArray, List.set_cons_zero, List.set_cons_succ]
          rfl
        refine take_h (i := 16) (N := some 31) (v := ?_) (a' := ?_) rfl rfl (by kernel_rfl) (by kernel_rfl) (by kernel_rfl) (fun _ _ _ h => h) (Or.inl ⟨by rfl, ?_⟩) (by with_reducible assumption) ?_ ?_
        rotate_left 2
        · intro w' hSw
          try dsimp only at hSw
          go_simp
          try with_reducible rfl
        · simp only [Act.put, List.setIfInBounds_toArray, List.set_cons_zero, List.set_cons_succ]
          rfl
        refine wpAnyH_done (by kernel_rfl) ?_ _
        have HB2 := Lib.hid (HFIN.out _ hs2.2.2)
        clear hs0 hs2
        go_wp2
        go_ret2
        exact ⟨by rw [HBAD.out (by rw [HOK.out]; rfl)]; rfl, HB2.out⟩
      | true =>
        rw [hnm] at HN HOK
        clear hnm
        cases hem : x.f1.data.toList.any endsB with
        | true =>
          rw [hem] at HE HOK
          clear hem
          refine wp_region_held_drew (S := fun w' => w'.cell? ⟨n0, 0, none⟩ = some (.string x.f0) ∧ w'.cell? ⟨n0, 1, none⟩ = some (.string x.f1) ∧ Below w1.heap.size w1 w') (by kernel_rfl) ⟨hs0.1, hs0.2.1, hs0.2.2.drew⟩ (fun hHeld => ?_)
          refine take_h (i := 0) (N := some 15) (v := ?_) (a' := ?_) rfl rfl (by kernel_rfl) (by kernel_rfl) (by kernel_rfl) (fun _ _ _ h => h) (Or.inl ⟨by rfl, ?_⟩) (by with_reducible assumption) ?_ ?_
          rotate_left 2
          · intro w' hSw
            try dsimp only at hSw
            go_simp
            try with_reducible rfl
          · simp only [Act.put, List.setIfInBounds_toArray, List.set_cons_zero, List.set_cons_succ]
            rfl
          refine take_h (i := 1) (N := some 16) (v := ?_) (a' := ?_) rfl rfl (by kernel_rfl) (by kernel_rfl) (by kernel_rfl) (fun _ _ _ h => h) (Or.inl ⟨by rfl, ?_⟩) (by with_reducible assumption) ?_ ?_
          rotate_left 2
          · intro w' hSw
            try dsimp only at hSw
            go_simp
            try with_reducible rfl
          · simp only [Act.put, List.setIfInBounds_toArray, List.set_cons_zero, List.set_cons_succ]
            rfl
          refine wpAnyH_ready (rs := [2]) (by kernel_rfl) (by simp) (AllReadyH.cons rfl (fun K hK => ?_) AllReadyH.nil)
          go_simp
          refine (HN.out _).mono ?_; rintro e w2 ⟨rfl, hb2⟩; have hs2 := HKS.out _ _ hHeld hb2; clear hb2
          dsimp only
          refine hK.out _ _ hs2 (fun hHeld => ?_)
          clear hK K
          try simp only [Act.put, List.setIfInBounds_toArray, List.set_cons_zero, List.set_cons_succ]
          refine take_h (i := 3) (N := some 18) (v := ?_) (a' := ?_) rfl rfl (by kernel_rfl) (by kernel_rfl) (by kernel_rfl) (fun _ _ _ h => h) (Or.inl ⟨by rfl, ?_⟩) (by with_reducible assumption) ?_ ?_
          rotate_left 2
          · intro w' hSw
            try dsimp only at hSw
            go_simp
            try with_reducible rfl
          · simp only [Act.put, List.setIfInBounds_toArray, List.set_cons_zero, List.set_cons_succ]
            rfl
          refine take_h (i := 4) (N := some 19) (v := ?_) (a' := ?_) rfl rfl (by kernel_rfl) (by kernel_rfl) (by kernel_rfl) (fun _ _ _ h => h) (Or.inl ⟨by rfl, ?_⟩) (by with_reducible assumption) ?_ ?_
          rotate_left 2
          · intro w' hSw
            try dsimp only at hSw
            go_simp
            try with_reducible rfl
          · simp only [Act.put, List.setIfInBounds_toArray, List.set_cons_zero, List.set_cons_succ]
            rfl
          refine take_h (i := 5) (N := some 20) (v := ?_) (a' := ?_) rfl rfl (by kernel_rfl) (by kernel_rfl) (by kernel_rfl) (fun _ _ _ h => h) (Or.inl ⟨by rfl, ?_⟩) (by with_reducible assumption) ?_ ?_
          rotate_left 2
          · intro w' hSw
            try dsimp only at hSw
            go_simp
            try with_reducible rfl
          · simp only [Act.put, List.setIfInBounds_toArray, List.set_cons_zero, List.set_cons_succ]
            rfl
          refine take_h (i := 6) (N := some 21) (v := ?_) (a' := ?_) rfl rfl (by kernel_rfl) (by kernel_rfl) (by kernel_rfl) (fun _ _ _ h => h) (Or.inl ⟨by rfl, ?_⟩) (by with_reducible assumption) ?_ ?_
          rotate_left 2
          · intro w' hSw
            try dsimp only at hSw
            go_simp
            try with_reducible rfl
          · simp only [Act.put, List.setIfInBounds_toArray, List.set_cons_zero, List.set_cons_succ]
            rfl
          refine wpAnyH_ready (rs := [7]) (by kernel_rfl) (by simp) (AllReadyH.cons rfl (fun K hK => ?_) AllReadyH.nil)
          go_simp
          refine (HE.out _).mono ?_; rintro e w3 ⟨rfl, hb3⟩; have hs3 := HKS.out _ _ hHeld hb3; clear hb3
          dsimp only
          refine hK.out _ _ hs3 (fun hHeld => ?_)
          clear hK K
          try simp only [Act.put, List.setIfInBounds_toArray, List.set_cons_zero, List.set_cons_succ]
          refine take_h (i := 8) (N := some 23) (v := ?_) (a' := ?_) rfl rfl (by kernel_rfl) (by kernel_rfl) (by kernel_rfl) (fun _ _ _ h => h) (Or.inl ⟨by rfl, ?_⟩) (by with_reducible assumption) ?_ ?_
          rotate_left 2
          · intro w' hSw
            try dsimp only at hSw
            go_simp
            try with_reducible rfl
          · simp only [Act.put, List.setIfInBounds_toArray, List.set_cons_zero, List.set_cons_succ]
            rfl
          refine take_h (i := 9) (N := some 24) (v := ?_) (a' := ?_) rfl rfl (by kernel_rfl) (by kernel_rfl) (by kernel_rfl) (fun _ _ _ h => h) (Or.inl ⟨by rfl, ?_⟩) (by with_reducible assumption) ?_ ?_
          rotate_left 2
          · intro w' hSw
            try dsimp only at hSw
            go_simp
            try with_reducible rfl
          · simp only [Act.put, List.setIfInBounds_toArray, List.set_cons_zero, List.set_cons_succ]
            rfl
          refine take_h (i := 10) (N := some 25) (v := undef) (a' := ?_) rfl rfl (by kernel_rfl) (by kernel_rfl) (by kernel_rfl) (fun _ _ _ h => h) (Or.inr ⟨by rfl, rfl⟩) (by with_reducible assumption) ?_ ?_
          rotate_left
          · simp only [Act.put, List.setIfInBounds_toArray, List.set_cons_zero, List.set_cons_succ]
            rfl
          refine take_h (i := 11) (N := some 26) (v := undef) (a' := ?_) rfl rfl (by kernel_rfl) (by kernel_rfl) (by kernel_rfl) (fun _ _ _ h => h) (Or.inr ⟨by rfl, rfl⟩) (by with_reducible assumption) ?_ ?_
          rotate_left
          · simp only [Act.put, List.setIfInBounds_toArray, List.set_cons_zero, List.set_cons_succ]
            rfl
          refine take_h (i := 12) (N := some 27) (v := undef) (a' := ?_) rfl rfl (by kernel_rfl) (by kernel_rfl) (by kernel_rfl) (fun _ _ _ h => h) (Or.inr ⟨by rfl, rfl⟩) (by with_reducible assumption) ?_ ?_
          rotate_left
          · simp only [Act.put, List.setIfInBounds_toArray, List.set_cons_zero, List.set_cons_succ]
            rfl
          refine take_h (i := 13) (N := some 28) (v := undef) (a' := ?_) rfl rfl (by kernel_rfl) (by kernel_rfl) (by kernel_rfl) (fun _ _ _ h => h) (Or.inr ⟨by rfl, rfl⟩) (by with_reducible assumption) ?_ ?_
          rotate_left
          · simp only [Act.put, List.setIfInBounds_toArray, List.set_cons_zero, List.set_cons_succ]
            rfl
          refine take_h (i := 14) (N := some 29) (v := undef) (a' := ?_) rfl rfl (by kernel_rfl) (by kernel_rfl) (by kernel_rfl) (fun _ _ _ h => h) (Or.inr ⟨by rfl, rfl⟩) (by with_reducible assumption) ?_ ?_
          rotate_left
          · simp only [Act.put, List.setIfInBounds_toArray, List.set_cons_zero, List.set_cons_succ]
            rfl
          refine take_h (i := 15) (N := some 30) (v := undef) (a' := ?_) rfl rfl (by kernel_rfl) (by kernel_rfl) (by kernel_rfl) (fun _ _ _ h => h) (Or.inr ⟨by rfl, rfl⟩) (by with_reducible assumption) ?_ ?_
          rotate_left
          · simp only [Act.put, List.setIfInBounds_toArray, List.set_cons_zero, List.set_cons_succ]
            rfl
          refine take_h (i := 16) (N := some 31) (v := ?_) (a' := ?_) rfl rfl (by kernel_rfl) (by kernel_rfl) (by kernel_rfl) (fun _ _ _ h => h) (Or.inl ⟨by rfl, ?_⟩) (by with_reducible assumption) ?_ ?_
          rotate_left 2
          · intro w' hSw
            try dsimp only at hSw
            go_simp
            try with_reducible rfl
          · simp only [Act.put, List.setIfInBounds_toArray, List.set_cons_zero, List.set_cons_succ]
            rfl
          refine wpAnyH_done (by kernel_rfl) ?_ _
          have HB2 := Lib.hid (HFIN.out _ hs3.2.2)
          clear hs0 hs2 hs3
          go_wp2
          go_ret2
          exact ⟨by rw [HBAD.out (by rw [HOK.out]; rfl)]; rfl, HB2.out⟩
        | false =>
          rw [hem] at HE HOK
          clear hem
          refine wp_region_held_drew (S := fun w' => w'.cell? ⟨n0, 0, none⟩ = some (.string x.f0) ∧ w'.cell? ⟨n0, 1, none⟩ = some (.string x.f1) ∧ Below w1.heap.size w1 w') (by kernel_rfl) ⟨hs0.1, hs0.2.1, hs0.2.2.drew⟩ (fun hHeld => ?_)
          refine take_h (i := 0) (N := some 15) (v := ?_) (a' := ?_) rfl rfl (by kernel_rfl) (by kernel_rfl) (by kernel_rfl) (fun _ _ _ h => h) (Or.inl ⟨by rfl, ?_⟩) (by with_reducible assumption) ?_ ?_
          rotate_left 2
          · intro w' hSw
            try dsimp only at hSw
            go_simp
            try with_reducible rfl
          · simp only [Act.put, List.setIfInBounds_toArray, List.set_cons_zero, List.set_cons_succ]
            rfl
          refine take_h (i := 1) (N := some 16) (v := ?_) (a' := ?_) rfl rfl (by kernel_rfl) (by kernel_rfl) (by kernel_rfl) (fun _ _ _ h => h) (Or.inl ⟨by rfl, ?_⟩) (by with_reducible assumption) ?_ ?_
          rotate_left 2
          · intro w' hSw
            try dsimp only at hSw
            go_simp
            try with_reducible rfl
          · simp only [Act.put, List.setIfInBounds_toArray, List.set_cons_zero, List.set_cons_succ]
            rfl
          refine wpAnyH_ready (rs := [2]) (by kernel_rfl) (by simp) (AllReadyH.cons rfl (fun K hK => ?_) AllReadyH.nil)
          go_simp
          refine (HN.out _).mono ?_; rintro e w2 ⟨rfl, hb2⟩; have hs2 := HKS.out _ _ hHeld hb2; clear hb2
          dsimp only
          refine hK.out _ _ hs2 (fun hHeld => ?_)
          clear hK K
          try simp only [Act.put, List.setIfInBounds_toArray, List.set_cons_zero, List.set_cons_succ]
          refine take_h (i := 3) (N := some 18) (v := ?_) (a' := ?_) rfl rfl (by kernel_rfl) (by kernel_rfl) (by kernel_rfl) (fun _ _ _ h => h) (Or.inl ⟨by rfl, ?_⟩) (by with_reducible assumption) ?_ ?_
          rotate_left 2
          · intro w' hSw
            try dsimp only at hSw
            go_simp
            try with_reducible rfl
          · simp only [Act.put, List.setIfInBounds_toArray, List.set_cons_zero, List.set_cons_succ]
            rfl
          refine take_h (i := 4) (N := some 19) (v := ?_) (a' := ?_) rfl rfl (by kernel_rfl) (by kernel_rfl) (by kernel_rfl) (fun _ _ _ h => h) (Or.inl ⟨by rfl, ?_⟩) (by with_reducible assumption) ?_ ?_
          rotate_left 2
          · intro w' hSw
            try dsimp only at hSw
            go_simp
            try with_reducible rfl
          · simp only [Act.put, List.setIfInBounds_toArray, List.set_cons_zero, List.set_cons_succ]
            rfl
          refine take_h (i := 5) (N := some 20) (v := ?_) (a' := ?_) rfl rfl (by kernel_rfl) (by kernel_rfl) (by kernel_rfl) (fun _ _ _ h => h) (Or.inl ⟨by rfl, ?_⟩) (by with_reducible assumption) ?_ ?_
          rotate_left 2
          · intro w' hSw
            try dsimp only at hSw
            go_simp
            try with_reducible rfl
          · simp only [Act.put, List.setIfInBounds_toArray, List.set_cons_zero, List.set_cons_succ]
            rfl
          refine take_h (i := 6) (N := some 21) (v := ?_) (a' := ?_) rfl rfl (by kernel_rfl) (by kernel_rfl) (by kernel_rfl) (fun _ _ _ h => h) (Or.inl ⟨by rfl, ?_⟩) (by with_reducible assumption) ?_ ?_
          rotate_left 2
          · intro w' hSw
            try dsimp only at hSw
            go_simp
            try with_reducible rfl
          · simp only [Act.put, List.setIfInBounds_toArray, List.set_cons_zero, List.set_cons_succ]
            rfl
          refine wpAnyH_ready (rs := [7]) (by kernel_rfl) (by simp) (AllReadyH.cons rfl (fun K hK => ?_) AllReadyH.nil)
          go_simp
          refine (HE.out _).mono ?_; rintro e w3 ⟨rfl, hb3⟩; have hs3 := HKS.out _ _ hHeld hb3; clear hb3
          dsimp only
          refine hK.out _ _ hs3 (fun hHeld => ?_)
          clear hK K
          try simp only [Act.put, List.setIfInBounds_toArray, List.set_cons_zero, List.set_cons_succ]
          refine take_h (i := 8) (N := some 23) (v := ?_) (a' := ?_) rfl rfl (by kernel_rfl) (by kernel_rfl) (by kernel_rfl) (fun _ _ _ h => h) (Or.inl ⟨by rfl, ?_⟩) (by with_reducible assumption) ?_ ?_
          rotate_left 2
          · intro w' hSw
            try dsimp only at hSw
            go_simp
            try with_reducible rfl
          · simp only [Act.put, List.setIfInBounds_toArray, List.set_cons_zero, List.set_cons_succ]
            rfl
          refine take_h (i := 9) (N := some 24) (v := ?_) (a' := ?_) rfl rfl (by kernel_rfl) (by kernel_rfl) (by kernel_rfl) (fun _ _ _ h => h) (Or.inl ⟨by rfl, ?_⟩) (by with_reducible assumption) ?_ ?_
          rotate_left 2
          · intro w' hSw
            try dsimp only at hSw
            go_simp
            try with_reducible rfl
          · simp only [Act.put, List.setIfInBounds_toArray, List.set_cons_zero, List.set_cons_succ]
            rfl
          refine take_h (i := 10) (N := some 25) (v := ?_) (a' := ?_) rfl rfl (by kernel_rfl) (by kernel_rfl) (by kernel_rfl) (fun _ _ _ h => h) (Or.inl ⟨by rfl, ?_⟩) (by with_reducible assumption) ?_ ?_
          rotate_left 2
          · intro w' hSw
            try dsimp only at hSw
            go_simp
            try with_reducible rfl
          · simp only [Act.put, List.setIfInBounds_toArray, List.set_cons_zero, List.set_cons_succ]
            rfl
          refine take_h (i := 11) (N := some 26) (v := ?_) (a' := ?_) rfl rfl (by kernel_rfl) (by kernel_rfl) (by kernel_rfl) (fun _ _ _ h => h) (Or.inl ⟨by rfl, ?_⟩) (by with_reducible assumption) ?_ ?_
          rotate_left 2
          · intro w' hSw
            try dsimp only at hSw
            go_simp
            try with_reducible rfl
          · simp only [Act.put, List.setIfInBounds_toArray, List.set_cons_zero, List.set_cons_succ]
            rfl
          refine take_h (i := 13) (N := some 28) (v := ?_) (a' := ?_) rfl rfl (by kernel_rfl) (by kernel_rfl) (by kernel_rfl) (fun _ _ _ h => h) (Or.inl ⟨by rfl, ?_⟩) (by with_reducible assumption) ?_ ?_
          rotate_left 2
          · intro w' hSw
            try dsimp only at hSw
            go_simp
            try with_reducible rfl
          · simp only [Act.put, List.setIfInBounds_toArray, List.set_cons_zero, List.set_cons_succ]
            rfl
          refine take_h (i := 14) (N := some 29) (v := ?_) (a' := ?_) rfl rfl (by kernel_rfl) (by kernel_rfl) (by kernel_rfl) (fun _ _ _ h => h) (Or.inl ⟨by rfl, ?_⟩) (by with_reducible assumption) ?_ ?_
          rotate_left 2
          · intro w' hSw
            try dsimp only at hSw
            go_simp
            try with_reducible rfl
          · simp only [Act.put, List.setIfInBounds_toArray, List.set_cons_zero, List.set_cons_succ]
            rfl
          refine wpAnyH_ready (rs := [12]) (by kernel_rfl) (by simp) (AllReadyH.cons rfl (fun K hK => ?_) AllReadyH.nil)
          go_simp
          refine (HT.out _).mono ?_; rintro e w4 ⟨rfl, hb4⟩; have hs4 := HKS.out _ _ hHeld hb4; clear hb4
          dsimp only
          refine hK.out _ _ hs4 (fun hHeld => ?_)
          clear hK K
          try simp only [Act.put, List.setIfInBounds_toArray, List.set_cons_zero, List.set_cons_succ]
          refine take_h (i := 15) (N := some 30) (v := ?_) (a' := ?_) rfl rfl (by kernel_rfl) (by kernel_rfl) (by kernel_rfl) (fun _ _ _ h => h) (Or.inl ⟨by rfl, ?_⟩) (by with_reducible assumption) ?_ ?_
          rotate_left 2
          · intro w' hSw
            try dsimp only at hSw
            go_simp
            try with_reducible rfl
          · simp only [Act.put, List.setIfInBounds_toArray, List.set_cons_zero, List.set_cons_succ]
            rfl
          refine take_h (i := 16) (N := some 31) (v := ?_) (a' := ?_) rfl rfl (by kernel_rfl) (by kernel_rfl) (by kernel_rfl) (fun _ _ _ h => h) (Or.inl ⟨by rfl, ?_⟩) (by with_reducible assumption) ?_ ?_
          rotate_left 2
          · intro w' hSw
            try dsimp only at hSw
            go_simp
            try with_reducible rfl
          · simp only [Act.put, List.setIfInBounds_toArray, List.set_cons_zero, List.set_cons_succ]
            rfl
          refine wpAnyH_done (by kernel_rfl) ?_ _
          have HB2 := Lib.hid (HFIN.out _ hs4.2.2)
          have HBLD2 : Hid (Lib.IsBuilder 62 5 w.heap.size w.heap.size (Lib.byteCells (fieldsL (l.take k))) w4) := Lib.hid (isBuilder_below HBLD1.out hs4.2.2)
          have e1 := hs4.1
          have e2 := hs4.2.1
          clear hs0 hs2 hs3 hs4
          rw [Lib.toList_data] at *
          cases htr : (Lib.trimS x.f1.data.toList ws == x.f1.data.toList) with
          | false =>
            rw [htr] at HOK
            clear htr
            go_wp2
            go_ret2
            exact ⟨by rw [HBAD.out (by rw [HOK.out]; rfl)]; rfl, HB2.out⟩
          | true =>
            rw [htr] at HOK
            clear htr
            have HALL2 : Hid ((l.take (k + 1)).all okF = true) := Lib.hid (by rw [HTK.out, List.all_append, HA.out, List.all_cons, HOK.out]; rfl)
            have HLEN := Lib.hid (fields_len l k HSZ.out (by omega))
            have q1 : ¬ 9223372036854775807 < x.f0.size + 2 := by omega
            have q2 : ¬ 9223372036854775807 < x.f0.size + 2 + x.f1.size := by omega
            have q3 : ¬ 9223372036854775807 < x.f0.size + 2 + x.f1.size + 2 := by omega
            clear HA HBAD HN HE HT HKS HBLD1 HB1
            go_wp2_with fail
            refine (writeString_any w.heap.size w.heap.size _ _ _ HBLD2.out ?bd HB2.out.size).mono ?_
            case bd =>
              rw [Lib.byteCells_length]
              have := HLEN.out
              simp only [ByteArray.size_append]
              have e2 : (⟨#[58, 32]⟩ : ByteArray).size = 2 := rfl
              have e3 : (⟨#[13, 10]⟩ : ByteArray).size = 2 := rfl
              omega
            rintro e w5 ⟨rfl, hbl, hb5⟩
            have HBLD3 : Hid (Lib.IsBuilder 62 5 w.heap.size w.heap.size (Lib.byteCells (fieldsL (l.take (k + 1)))) w5) := Lib.hid (by
              rw [HTK.out, fieldsL_append, byteCells_append]
              have e : Lib.strCells (x.f0 ++ ⟨#[58, 32]⟩ ++ x.f1 ++ ⟨#[13, 10]⟩) = Lib.byteCells (fieldL x) := by
                simp [Lib.strCells, Lib.byteCells, fieldL]
              rw [show fieldsL [x] = fieldL x from by simp [fieldsL], ← e]
              exact .inr hbl)
            have HB3 : Hid (Below w.heap.size w w5) := Lib.hid (HB2.out.trans hb5)
            clear hbl hb5
            go_wp2
            go_roundw
            case rel => exact ⟨k + 1, by omega, by go_num, HBLD3, HB3, HALL2⟩
            case measure => simp [intOf]; omega
    · obtain rfl : k = l.length := by omega
      have HTA : Hid (l.take l.length = l) := Lib.hid List.take_length
      rw [HTA.out] at HBLD HA
      have HLEN := Lib.hid (fields_len l l.length HSZ.out (Nat.le_refl _))
      rw [HTA.out] at HLEN
      by_cases h5 : l.length ≤ 500
      · have h5' : (l.length : Int) ≤ 500 := by omega
        have HW : Hid (writeL l body = (⟨(fieldsL l ++ [13, 10] ++ body.data.toList).toArray⟩, 0)) := Lib.hid (by unfold writeL; rw [if_pos HA.out, if_pos h5])
        have hbs := HB.out.size
        go_wp2_with fail
        refine (Tryd.Builder_String_any w.heap.size w.heap.size (fieldsL l) wr HBLD.out hbs).mono ?_
        rintro e w3 ⟨rfl, hb3⟩
        have HB3 : Hid (Below w.heap.size w w3) := Lib.hid (HB.out.trans hb3)
        have q1 : ¬ 9223372036854775807 < (fieldsL l).length + 2 := by have := HLEN.out; omega
        have q2 : ¬ 9223372036854775807 < (fieldsL l).length + 2 + body.size := by have := HLEN.out; omega
        clear hb3
        go_wp2
        go_ret2
        refine ⟨?_, HB3.out⟩
        rw [HW.out]
        have e : (⟨(fieldsL l).toArray⟩ ++ ⟨#[13, 10]⟩ ++ body : ByteArray) = ⟨(fieldsL l ++ [13, 10] ++ body.data.toList).toArray⟩ := by
          rw [← Lib.mk_data ((⟨(fieldsL l).toArray⟩ : ByteArray) ++ ⟨#[13, 10]⟩ ++ body)]
          simp
        rw [← e]; rfl
      · have h5' : ¬ (l.length : Int) ≤ 500 := by omega
        have h6 : 500 < (l.length : Int) := by omega
        have HW : Hid (writeL l body = (⟨#[]⟩, 3)) := Lib.hid (by unfold writeL; rw [if_pos HA.out, if_neg h5])
        go_wp2
        go_ret2
        exact ⟨by rw [HW.out]; rfl, HB.out⟩
end Go.Proofs.YtomfdejamngkjaaDoor
