/- A message's header, over lists; what holds between two of its rounds. -/
import Derived.Test.YtomfdejamngkjaaDoorHd
set_option linter.unusedVariables false
set_option linter.unusedSimpArgs false
namespace Go.Proofs.YtomfdejamngkjaaDoor
open Go.RowKit Plain Pr Go.Proofs.YtomfdejamngkjaaDoorW.PrintWords
def whiteHead (t : List UInt8) : Bool := match t with
  | [] => false
  | c :: _ => ws.contains c
def nameOf (x : Ln) : List UInt8 := Lib.trimRightS (Lib.cut x.1 [58]).1 ws
def valOf (x : Ln) : List UInt8 := (Lib.cut x.1 [58]).2.1
def fieldIs (x : Ln) : Bool := (Lib.cut x.1 [58]).2.2 && nameB (nameOf x)
def hdNew (out : List S29) (x : Ln) : HdSt :=
  if fieldIs x && decide (out.length < 500) then (out ++ [⟨⟨(nameOf x).toArray⟩, ⟨#[]⟩⟩], some [valOf x]) else (out, none)
def hdLine (st : HdSt) (x : Ln) : HdSt := if whiteHead x.1 then (st.1, st.2.map (· ++ [x.1])) else hdNew (shutL st).1 x
def stops (x : Ln) : Bool := x.1.isEmpty && x.2.2
def hdRun : List Ln → HdSt → HdSt × List UInt8
  | [], st => (st, [])
  | x :: r, st => if stops x then (st, x.2.1) else hdRun r (hdLine st x)
def headL (l : List UInt8) : List S29 × List UInt8 := ((shutL (hdRun (linesL l) ([], none)).1).1, (hdRun (linesL l) ([], none)).2)
theorem hdRun_all : ∀ (l : List Ln) (st : HdSt), (∀ x ∈ l, stops x = false) → hdRun l st = (l.foldl hdLine st, [])
  | [], st, _ => rfl
  | x :: r, st, h => by
    rw [hdRun, h x (by simp)]
    exact hdRun_all r _ (fun y hy => h y (by simp [hy]))
theorem hdRun_stop : ∀ (p : List Ln) (x : Ln) (r : List Ln) (st : HdSt), (∀ y ∈ p, stops y = false) → stops x = true → hdRun (p ++ x :: r) st = (p.foldl hdLine st, x.2.1)
  | [], x, r, st, _, hx => by rw [List.nil_append, hdRun, hx]; rfl
  | y :: p, x, r, st, h, hx => by
    rw [List.cons_append, hdRun, h y (by simp)]
    exact hdRun_stop p x r _ (fun z hz => h z (by simp [hz])) hx
theorem shutL_snd (st : HdSt) : (shutL st).2 = none := by
  obtain ⟨out, o⟩ := st
  cases o <;> rfl
theorem setLast_len (out : List S29) (v : List UInt8) : (setLast out v).length = out.length := by
  rcases List.eq_nil_or_concat out with rfl | ⟨i, x, rfl⟩
  · rfl
  · simp [setLast]
theorem shutL_len (st : HdSt) : (shutL st).1.length = st.1.length := by
  obtain ⟨out, o⟩ := st
  cases o with
  | none => rfl
  | some vs => exact setLast_len _ _
/-- How long the texts are that the open field has: so many, so many bytes. -/
structure HdSmall (st : HdSt) (k b : Nat) : Prop where
  out : st.1.length ≤ 500
  vals : ∀ vs, st.2 = some vs → vs.length ≤ k ∧ vs.flatten.length ≤ b
  fit : st.2 ≠ none → st.1 ≠ []
theorem hdLine_small {st : HdSt} {k b : Nat} (h : HdSmall st k b) (x : Ln) : HdSmall (hdLine st x) (k + 1) (b + x.1.length) := by
  unfold hdLine
  split
  · refine ⟨h.out, fun vs hv => ?_, fun hv => h.fit (by intro e; rw [e] at hv; exact hv rfl)⟩
    obtain ⟨us, hu, rfl⟩ := Option.map_eq_some_iff.1 hv
    obtain ⟨h1, h2⟩ := h.vals us hu
    refine ⟨by simp only [List.length_append, List.length_singleton]; omega, ?_⟩
    rw [List.flatten_append, List.length_append]
    simp only [List.flatten_cons, List.flatten_nil, List.append_nil]
    omega
  · unfold hdNew
    split
    · rename_i hc
      simp only [Bool.and_eq_true, decide_eq_true_eq] at hc
      refine ⟨by simp; omega, fun vs hv => ?_, fun _ => by simp⟩
      cases hv
      have := (cut_len x.1 58).2.1
      simp [valOf]
      omega
    · exact ⟨by show (shutL st).1.length ≤ 500; rw [shutL_len]; exact h.out, fun vs (hv : (none : Option _) = some vs) => (by cases hv), fun hv => absurd rfl hv⟩
theorem hdFold_small : ∀ (l : List Ln) (st : HdSt) (k b : Nat), HdSmall st k b → HdSmall (l.foldl hdLine st) (k + l.length) (b + (l.map (·.1)).flatten.length)
  | [], st, k, b, h => by simpa using h
  | x :: r, st, k, b, h => by
    have := hdFold_small r _ _ _ (hdLine_small h x)
    simp only [List.foldl_cons, List.length_cons, List.map_cons, List.flatten_cons, List.length_append]
    rw [show k + (r.length + 1) = k + 1 + r.length by omega, show b + (x.1.length + (r.map (·.1)).flatten.length) = b + x.1.length + (r.map (·.1)).flatten.length by omega]
    exact this
theorem lineOf_sum (l : List UInt8) : (lineOf l).1.length + (lineOf l).2.1.length ≤ l.length := by
  have hc : (Lib.cut l [10]).1.length + (Lib.cut l [10]).2.1.length ≤ l.length := by
    unfold Lib.cut
    split
    · simp only [List.length_take, List.length_drop]; omega
    · simp
  unfold lineOf
  simp only
  split
  · have := trim_len (Lib.cut l [10]).1 [13]; omega
  · exact hc
theorem linesL_sum : ∀ (n : Nat) (l : List UInt8), l.length ≤ n → ((linesL l).map (·.1)).flatten.length ≤ l.length := by
  intro n
  induction n with
  | zero =>
    intro l h
    obtain rfl : l = [] := List.eq_nil_of_length_eq_zero (by omega)
    rw [linesL_nil]; simp
  | succ n ih =>
    intro l h
    by_cases h0 : l = []
    · subst h0; rw [linesL_nil]; simp
    · have h1 := (lineOf_len l).2.2 h0
      have h2 := ih (lineOf l).2.1 (by omega)
      have h3 := lineOf_sum l
      rw [linesL_cons h0, List.map_cons, List.flatten_cons, List.length_append]
      omega
theorem prefix_small {l : List UInt8} {pre : List Ln} (hp : pre <+: linesL l) : HdSmall (pre.foldl hdLine ([], none)) l.length l.length := by
  obtain ⟨r, hr⟩ := hp
  have h := hdFold_small pre ([], none) 0 0 ⟨by simp, fun vs hv => (by cases hv), fun hv => absurd rfl hv⟩
  have h1 := linesL_len _ l (Nat.le_refl _)
  have h2 := linesL_sum _ l (Nat.le_refl _)
  rw [← hr, List.length_append] at h1
  rw [← hr, List.map_append, List.flatten_append, List.length_append] at h2
  exact ⟨h.out, fun vs hv => (by obtain ⟨a, b⟩ := h.vals vs hv; omega), h.fit⟩
/-- What holds between two rounds of Head. -/
structure HIv (w : World) (st : HdSt) (bd : List UInt8) (W : World) : Prop where
  hd : HdAt w.heap.size st W
  bdb : Boxed W (w.heap.size + 2) 9 (.string ⟨bd.toArray⟩)
  shb : Boxed W (w.heap.size + 3) 1 (.func (.func 26) #[] #[.pointer (some ⟨w.heap.size + 1, 0, none⟩), .pointer (some ⟨w.heap.size, 0, none⟩)])
  low : Below w.heap.size w W
  size : w.heap.size + 5 ≤ W.heap.size
theorem HIv.block {w : World} {st : HdSt} {bd : List UInt8} {W W' : World} (h : HIv w st bd W) (ho : W'.os = W.os) (ht : W'.tape = W.tape) (hu : W'.output = W.output) (hz : W.heap.size ≤ W'.heap.size)
    (hb : ∀ k, k < W.heap.size → k ≠ w.heap.size + 4 → (∃ o : Obj, W.heap[k]? = some o ∧ o.isCells = true) ∨ k < w.heap.size → W'.heap[k]? = W.heap[k]?) : HIv w st bd W' := by
  obtain ⟨⟨⟨lv, hl, hlr⟩, ⟨vv, hv, hvr⟩, hf⟩, h2, h3, h4, h5⟩ := h
  have hbox : ∀ {B t v}, Boxed W B t v → B ≠ w.heap.size + 4 → Boxed W' B t v := fun hx hne => (hb _ hx.lt hne (.inl ⟨_, hx, rfl⟩)).trans hx
  have hrow : ∀ {e size v n xs}, W.ownsRow (w.heap.size + 5) e size v n xs → W'.ownsRow (w.heap.size + 5) e size v n xs := fun hx => own_move hx (fun k hk => by
    have h5 := own_base hx k hk
    rcases hx.2 with ⟨rfl, _⟩ | ⟨g, cap, cur, rfl, _, hg, _⟩
    · simp [Value.ownBlock] at hk
    · obtain rfl : g = k := by simpa [Value.ownBlock] using hk
      exact hb _ (Array.getElem?_eq_some_iff.1 hg).1 (by omega) (.inl ⟨_, hg, rfl⟩))
  refine ⟨⟨⟨lv, hbox hl (by omega), hrow hlr⟩, ⟨vv, hbox hv (by omega), ?_⟩, hf⟩, hbox h2 (by omega), hbox h3 (by omega), ⟨ho.trans h4.os, ht.trans h4.tape, hu.trans h4.output, Nat.le_trans h4.size hz, fun k hk => (hb k (by omega) (by omega) (.inr hk)).trans (h4.block k hk)⟩, Nat.le_trans h5 hz⟩
  cases st with
  | mk a o => cases o with
    | none => exact hvr
    | some vs => exact ⟨hrow hvr.1, hvr.2⟩
theorem HIv.grown {w : World} {st : HdSt} {bd : List UInt8} {W W' : World} {row : Option Nat} (h : HIv w st bd W) (hg : W.grownBy W' row) (hr : ∀ r, row = some r → r = w.heap.size + 4 ∨ (w.heap.size ≤ r ∧ ∃ o : Obj, W.heap[r]? = some o ∧ o.isCells = false)) : HIv w st bd W' := by
  refine h.block hg.os hg.tape hg.output hg.size (fun k hk hne hc => hg.block k hk (fun e => ?_))
  rcases hr k e.symm with e' | ⟨hge, o, ho, hoc⟩
  · exact hne e'
  · rcases hc with ⟨o', ho', hoc'⟩ | hlt
    · rw [ho] at ho'; cases ho'; rw [hoc] at hoc'; cases hoc'
    · omega
theorem HIv.below {w : World} {st : HdSt} {bd : List UInt8} {W W' : World} (h : HIv w st bd W) (hb : Below W.heap.size W W') : HIv w st bd W' :=
  h.block hb.os hb.tape hb.output hb.size (fun k hk _ _ => hb.block k hk)
theorem HIv.shuts {w : World} {st : HdSt} {bd : List UInt8} {W W' : World} (h : HIv w st bd W) (hs : Shuts w.heap.size W W') (hd' : HdAt w.heap.size (shutL st) W') : HIv w (shutL st) bd W' := by
  refine ⟨hd', ?_, ?_, ⟨hs.os.trans h.low.os, hs.tape.trans h.low.tape, hs.output.trans h.low.output, Nat.le_trans h.low.size hs.size, fun k hk => ?_⟩, Nat.le_trans h.size hs.size⟩
  · exact (hs.block _ h.bdb.lt (by omega) (fun hh => by omega)).trans h.bdb
  · exact (hs.block _ h.shb.lt (by omega) (fun hh => by omega)).trans h.shb
  · exact (hs.block k (by have := h.size; omega) (by omega) (fun hh => by omega)).trans (h.low.block k hk)
theorem Shuts.keeps {h : Nat} {W W' : World} (hs : Shuts h W W') (hc : ∃ v, Boxed W (h + 1) 24 v) : KeepsOthers W W' := by
  refine ⟨hs.size, fun k o hk ho => (hs.block k (Array.getElem?_eq_some_iff.1 hk).1 (fun e => ?_) (fun _ cells e => ?_)).trans hk⟩
  · obtain ⟨v, hv⟩ := hc
    subst e
    rw [show W.heap[h + 1]? = _ from hv] at hk
    cases hk; cases ho
  · rw [hk] at e; cases e; cases ho
theorem Shuts.leaves {h : Nat} {W W' : World} (hs : Shuts h W W') (hz : h + 5 ≤ W.heap.size) : Range.Leaves (h + 4) W W' :=
  ⟨hs.block _ (by omega) (by omega) (fun hh => by omega), hs.size⟩
theorem keeps_below {W W' : World} (h : Below W.heap.size W W') : KeepsOthers W W' := ⟨h.size, fun k o hk _ => (h.block k (Array.getElem?_eq_some_iff.1 hk).1).trans hk⟩
theorem leaves_below {X : Nat} {W W' : World} (h : Below W.heap.size W W') (hX : X < W.heap.size) : Range.Leaves X W W' := ⟨h.block X hX, h.size⟩
theorem row_slice {W : World} {base : Nat} {e : TypeId} {size n : Nat} {v : Value} {xs : List Value} (h : W.ownsRow base e size v n xs) : ∃ A c, v = .slice A n c := by
  rcases h.2 with ⟨rfl, rfl⟩ | ⟨g, cap, cur, rfl, _⟩
  · exact ⟨_, _, rfl⟩
  · exact ⟨_, _, rfl⟩
theorem row_cells {W : World} {base : Nat} {e : TypeId} {size n : Nat} {v : Value} {xs : List Value} (h : W.ownsRow base e size v n xs) (k : Nat) (hk : v.ownBlock = some k) : ∃ cur, W.heap[k]? = some (.cells cur e (0, 0)) := by
  rcases h.2 with ⟨rfl, rfl⟩ | ⟨g, cap, cur, rfl, _, hg, _⟩
  · simp [Value.ownBlock] at hk
  · obtain rfl : g = k := by simpa [Value.ownBlock] using hk
    exact ⟨cur, hg⟩
/-- Between two rounds: no line so far was the one at which the body begins. -/
def HdI (w : World) (pre : List Ln) (W : World) : Prop := (∀ y ∈ pre, stops y = false) ∧ HIv w (pre.foldl hdLine ([], none)) [] W
/-- A round left: its line is the one at which the body begins. -/
def HdX (w : World) (c : Code) (pre : List Ln) (W : World) : Prop := c = .exit 0 ∧ ∃ p x, pre = p ++ [x] ∧ (∀ y ∈ p, stops y = false) ∧ stops x = true ∧ HIv w (p.foldl hdLine ([], none)) x.2.1 W
theorem hdI_snoc {w : World} {pre : List Ln} {x : Ln} {st : HdSt} {W' : World} (hns : ∀ y ∈ pre, stops y = false) (hst : pre.foldl hdLine ([], none) = st) (hx : stops x = false) (h : HIv w (hdLine st x) [] W') : HdI w (pre ++ [x]) W' := by
  subst hst
  refine ⟨fun y hy => ?_, by rw [List.foldl_append]; exact h⟩
  rcases List.mem_append.1 hy with h1 | h1
  · exact hns y h1
  · rw [List.mem_singleton.1 h1]; exact hx
theorem HIv.setBody {w : World} {st : HdSt} {bd : List UInt8} {W : World} (h : HIv w st bd W) (bd' : List UInt8) : HIv w st bd' (W.setCell ⟨w.heap.size + 2, 0, none⟩ (.string ⟨bd'.toArray⟩)) := by
  have hb : ∀ k, k ≠ w.heap.size + 2 → (W.setCell ⟨w.heap.size + 2, 0, none⟩ (.string ⟨bd'.toArray⟩)).heap[k]? = W.heap[k]? := fun k hk => Below.heap_setCell W ⟨w.heap.size + 2, 0, none⟩ _ k hk
  obtain ⟨⟨⟨lv, hl, hlr⟩, ⟨vv, hv, hvr⟩, hf⟩, h2, h3, h4, h5⟩ := h
  refine ⟨⟨⟨lv, (hb _ (by omega)).trans hl, own_move hlr (fun k hk => hb k (by have := own_base hlr k hk; omega))⟩, ⟨vv, (hb _ (by omega)).trans hv, ?_⟩, hf⟩, h2.set _, (hb _ (by omega)).trans h3, ⟨h4.os, h4.tape, h4.output, by rw [World.size_setCell]; exact h4.size, fun k hk => (hb k (by omega)).trans (h4.block k hk)⟩, by rw [World.size_setCell]; exact h5⟩
  cases st with
  | mk a o => cases o with
    | none => exact hvr
    | some vs => exact ⟨own_move hvr.1 (fun k hk => hb k (by have := own_base hvr.1 k hk; omega)), hvr.2⟩
theorem HIv.after {w : World} {st st' : HdSt} {bd : List UInt8} {W W' : World} (h : HIv w st bd W) (row : Option Nat) (hrow : ∀ r, row = some r → w.heap.size + 5 ≤ r ∧ ∃ o : Obj, W.heap[r]? = some o ∧ o.isCells = true)
    (ho : W'.os = W.os) (ht : W'.tape = W.tape) (hu : W'.output = W.output) (hz : W.heap.size ≤ W'.heap.size) (hb : ∀ k, k < W.heap.size → k ≠ w.heap.size → k ≠ w.heap.size + 1 → some k ≠ row → W'.heap[k]? = W.heap[k]?) (hd' : HdAt w.heap.size st' W') :
    HIv w st' bd W' ∧ KeepsOthers W W' ∧ Range.Leaves (w.heap.size + 4) W W' := by
  have hne : ∀ k, k < w.heap.size + 5 → some k ≠ row := fun k hk e => by have := (hrow k e.symm).1; omega
  have h5 := h.size
  obtain ⟨lv, hl, _⟩ := h.hd.rowL
  obtain ⟨vv, hv, _⟩ := h.hd.vals
  refine ⟨⟨hd', (hb _ h.bdb.lt (by omega) (by omega) (hne _ (by omega))).trans h.bdb, (hb _ h.shb.lt (by omega) (by omega) (hne _ (by omega))).trans h.shb, ⟨ho.trans h.low.os, ht.trans h.low.tape, hu.trans h.low.output, Nat.le_trans h.low.size hz, fun k hk => (hb k (by omega) (by omega) (by omega) (hne _ (by omega))).trans (h.low.block k hk)⟩, Nat.le_trans h.size hz⟩, ⟨hz, fun k o hk hoc => (hb k (Array.getElem?_eq_some_iff.1 hk).1 ?_ ?_ ?_).trans hk⟩, ⟨hb _ (by omega) (by omega) (by omega) (hne _ (by omega)), hz⟩⟩
  · intro e; subst e; rw [show W.heap[w.heap.size]? = _ from hl] at hk; cases hk; cases hoc
  · intro e; subst e; rw [show W.heap[w.heap.size + 1]? = _ from hv] at hk; cases hk; cases hoc
  · intro e
    obtain ⟨_, o', ho', hc'⟩ := hrow k e.symm
    rw [hk] at ho'; cases ho'; rw [hoc] at hc'; cases hc'
theorem HIv.moreText {w : World} {out : List S29} {vs : List (List UInt8)} {bd : List UInt8} {W w1 : World} {vv v' : Value} {o : Obj} (h : HIv w (out, some vs) bd W) (hbx : Boxed W (w.heap.size + 1) 24 vv) (hrv : W.ownsRow (w.heap.size + 5) 9 1 vv vs.length (strs vs)) (t : List UInt8)
    (own' : w1.ownsRow (w.heap.size + 5) 9 1 v' (vs.length + 1) (strs vs ++ [.string ⟨t.toArray⟩])) (hg : (W.alloc o).grownBy w1 vv.ownBlock) :
    HIv w (out, some (vs ++ [t])) bd (w1.setCell ⟨w.heap.size + 1, 0, none⟩ v') ∧ KeepsOthers W (w1.setCell ⟨w.heap.size + 1, 0, none⟩ v') ∧ Range.Leaves (w.heap.size + 4) W (w1.setCell ⟨w.heap.size + 1, 0, none⟩ v') := by
  have h5 := h.size
  have hblk : ∀ k, k < W.heap.size → some k ≠ vv.ownBlock → w1.heap[k]? = W.heap[k]? := fun k hk hne => (hg.block k (by simp; omega) hne).trans (Below.heap_alloc W o k hk)
  have hset : ∀ k, k ≠ w.heap.size + 1 → (w1.setCell ⟨w.heap.size + 1, 0, none⟩ v').heap[k]? = w1.heap[k]? := fun k hk => Below.heap_setCell w1 ⟨w.heap.size + 1, 0, none⟩ _ k hk
  have hlow : ∀ k, k < w.heap.size + 5 → some k ≠ vv.ownBlock := fun k hk e => by have := own_base hrv k e.symm; omega
  have hz : W.heap.size ≤ (w1.setCell ⟨w.heap.size + 1, 0, none⟩ v').heap.size := by
    rw [World.size_setCell]; have := hg.size; simp at this; omega
  obtain ⟨lv, hl, hlr⟩ := h.hd.rowL
  refine h.after vv.ownBlock (fun r hr => ⟨own_base hrv r hr, ?_⟩) hg.os hg.tape hg.output hz (fun k hk h1 h2 h3 => (hset k h2).trans (hblk k hk h3)) ⟨⟨lv, (hset _ (by omega)).trans ((hblk _ hl.lt (hlow _ (by omega))).trans hl), ?_⟩, ⟨v', ?_, ?_, by simp⟩, fun _ => h.hd.fit (by simp)⟩
  · obtain ⟨cur, hc⟩ := row_cells hrv r hr
    exact ⟨_, hc, rfl⟩
  · refine own_move hlr (fun k hk => (hset k (by have := own_base hlr k hk; omega)).trans ?_)
    obtain ⟨cur, hc⟩ := row_cells hlr k hk
    refine hblk k (Array.getElem?_eq_some_iff.1 hc).1 (fun e => ?_)
    obtain ⟨cur', hc'⟩ := row_cells hrv k e.symm
    rw [hc] at hc'
    simp at hc'
  · have : Boxed w1 (w.heap.size + 1) 24 vv := (hblk _ hbx.lt (hlow _ (by omega))).trans hbx
    exact this.set _
  · have : strs (vs ++ [t]) = strs vs ++ [.string ⟨t.toArray⟩] := by simp [strs]
    rw [this, List.length_append]
    exact own_move own' (fun k hk => hset k (by have := own_base own' k hk; omega))
theorem HIv.newField {w : World} {out : List S29} {bd : List UInt8} {W w1 : World} {lv v' : Value} {o : Obj} (h : HIv w (out, none) bd W) (hbx : Boxed W w.heap.size 27 lv) (hrl : W.ownsRow (w.heap.size + 5) 29 2 lv out.length (cells29 out)) (nm vl : List UInt8)
    (own' : w1.ownsRow (w.heap.size + 5) 29 2 v' (out.length + 1) (cells29 out ++ [.string ⟨nm.toArray⟩, .string ⟨#[]⟩])) (hg : (W.alloc o).grownBy w1 lv.ownBlock) (Z : World)
    (hZ : Z = ((w1.alloc (.cells #[.string ⟨vl.toArray⟩] 9)).setCell ⟨w.heap.size, 0, none⟩ v').setCell ⟨w.heap.size + 1, 0, none⟩ (.slice (some ⟨w1.heap.size, 0, none⟩) 1 1)) :
    HIv w (out ++ [⟨⟨nm.toArray⟩, ⟨#[]⟩⟩], some [vl]) bd Z ∧ KeepsOthers W Z ∧ Range.Leaves (w.heap.size + 4) W Z := by
  subst hZ
  have h5 := h.size
  have hz1 : W.heap.size + 1 ≤ w1.heap.size := by have := hg.size; simpa using this
  have hblk : ∀ k, k < W.heap.size → some k ≠ lv.ownBlock → w1.heap[k]? = W.heap[k]? := fun k hk hne => (hg.block k (by simp; omega) hne).trans (Below.heap_alloc W o k hk)
  have hset : ∀ k, k < w1.heap.size → k ≠ w.heap.size → k ≠ w.heap.size + 1 → (((w1.alloc (.cells #[.string ⟨vl.toArray⟩] 9)).setCell ⟨w.heap.size, 0, none⟩ v').setCell ⟨w.heap.size + 1, 0, none⟩ (.slice (some ⟨w1.heap.size, 0, none⟩) 1 1)).heap[k]? = w1.heap[k]? := fun k hk h1 h2 =>
    (Below.heap_setCell _ ⟨w.heap.size + 1, 0, none⟩ _ k h2).trans ((Below.heap_setCell _ ⟨w.heap.size, 0, none⟩ _ k h1).trans (Below.heap_alloc w1 _ k hk))
  have hlow : ∀ k, k < w.heap.size + 5 → some k ≠ lv.ownBlock := fun k hk e => by have := own_base hrl k e.symm; omega
  obtain ⟨vv, hv, _⟩ := h.hd.vals
  refine h.after lv.ownBlock (fun r hr => ⟨own_base hrl r hr, ?_⟩) hg.os hg.tape hg.output (by rw [World.size_setCell, World.size_setCell, World.size_alloc]; omega) (fun k hk h1 h2 h3 => (hset k (by omega) h1 h2).trans (hblk k hk h3)) ⟨⟨v', ?_, ?_⟩, ⟨_, ?_, ⟨rfl, .inr ⟨w1.heap.size, 1, #[.string ⟨vl.toArray⟩], rfl, by omega, ?_, by simp, by unfold maxLen; simp, rfl, rfl⟩⟩, by simp⟩, fun _ => by simp⟩
  · obtain ⟨cur, hc⟩ := row_cells hrl r hr
    exact ⟨_, hc, rfl⟩
  · have b1 : Boxed w1 w.heap.size 27 lv := (hblk _ hbx.lt (hlow _ (by omega))).trans hbx
    exact (Below.heap_setCell _ ⟨w.heap.size + 1, 0, none⟩ _ _ (by show w.heap.size ≠ w.heap.size + 1; omega)).trans ((b1.alloc _).set _)
  · have : cells29 (out ++ [⟨⟨nm.toArray⟩, ⟨#[]⟩⟩]) = cells29 out ++ [.string ⟨nm.toArray⟩, .string ⟨#[]⟩] := by rw [cells29_append]; rfl
    rw [this, List.length_append]
    refine own_move own' (fun k hk => hset k ?_ (by have := own_base own' k hk; omega) (by have := own_base own' k hk; omega))
    obtain ⟨cur, hc⟩ := row_cells own' k hk
    exact (Array.getElem?_eq_some_iff.1 hc).1
  · have b1 : Boxed w1 (w.heap.size + 1) 24 vv := (hblk _ hv.lt (hlow _ (by omega))).trans hv
    have b2 : Boxed ((w1.alloc (.cells #[.string ⟨vl.toArray⟩] 9)).setCell ⟨w.heap.size, 0, none⟩ v') (w.heap.size + 1) 24 vv := (Below.heap_setCell _ ⟨w.heap.size, 0, none⟩ _ _ (by show w.heap.size + 1 ≠ w.heap.size; omega)).trans (b1.alloc _)
    exact b2.set _
  · exact (Below.heap_setCell _ ⟨w.heap.size + 1, 0, none⟩ _ _ (by show w1.heap.size ≠ w.heap.size + 1; omega)).trans ((Below.heap_setCell _ ⟨w.heap.size, 0, none⟩ _ _ (by show w1.heap.size ≠ w.heap.size; omega)).trans (World.alloc_heap_new w1 _))
theorem hdLine_white {st : HdSt} {x : Ln} (hw : whiteHead x.1 = true) : hdLine st x = (st.1, st.2.map (· ++ [x.1])) := by
  unfold hdLine
  rw [hw]
  rfl
theorem hdLine_no {st : HdSt} {x : Ln} (hw : whiteHead x.1 = false) (hf : fieldIs x = false ∨ ¬ (shutL st).1.length < 500) : hdLine st x = ((shutL st).1, none) := by
  unfold hdLine hdNew
  rw [hw]
  rcases hf with hf | hf
  · rw [hf]; rfl
  · rw [decide_eq_false hf, Bool.and_false]; rfl
theorem hdLine_new {st : HdSt} {x : Ln} (hw : whiteHead x.1 = false) (hf : fieldIs x = true) (hl : (shutL st).1.length < 500) : hdLine st x = ((shutL st).1 ++ [⟨⟨(nameOf x).toArray⟩, ⟨#[]⟩⟩], some [valOf x]) := by
  unfold hdLine hdNew
  rw [hw, hf, decide_eq_true hl]
  rfl
theorem shutL_none {st : HdSt} : ((shutL st).1, (none : Option (List (List UInt8)))) = shutL st := by
  have := shutL_snd st
  generalize shutL st = q at *
  obtain ⟨a, b⟩ := q
  cases this
  rfl
end Go.Proofs.YtomfdejamngkjaaDoor
