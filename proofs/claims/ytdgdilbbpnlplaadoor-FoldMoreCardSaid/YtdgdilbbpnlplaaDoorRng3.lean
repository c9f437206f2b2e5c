/- A range over an iterator that reads the heap: what holds between two rounds says that what it reads stays. -/
import Derived.RangeFuncNested
import Derived.RangeFuncBound
import Derived.RangeFuncCalls
import Derived.RangeFuncLeaves
set_option linter.unusedVariables false
namespace Go.Proofs.YtdgdilbbpnlplaaDoor.Range
open Go.RowKit
variable {F : Fence} {n : Nat} {P : Program} {w : World}

/-- It holds on where the world grows, and where block X alone is written. -/
def Bears {β : Type} (X : Nat) (J : β → World → Prop) : Prop :=
  ∀ s W W' row, J s W → W.grownBy W' row → (∀ r, row = some r → r = X) → J s W'
/-- What a round must leave to the iterator: its block as it was. -/
def Leaves (X : Nat) (W W' : World) : Prop := W'.heap[X]? = W.heap[X]? ∧ W.heap.size ≤ W'.heap.size
theorem Leaves.trans {X : Nat} {A B C : World} (h : Leaves X A B) (k : Leaves X B C) : Leaves X A C := ⟨k.1.trans h.1, Nat.le_trans h.2 k.2⟩
theorem Leaves.putObj {X l : Nat} (W : World) (o : Obj) (h : X ≠ l) : Leaves X W (W.putObj l o) := ⟨World.putObj_heap_other h, by simp⟩

/-- What an iterator's own call comes to, at whatever the caller keeps between the rounds. -/
def Iter {α : Type} (F : Fence) (n : Nat) (P : Program) (gf : Nat) (lb : Array Value) (encs : α → Array Value) (X : Nat) (S Sp : List α → Prop) (N : Nat) (w : World) : Prop :=
  ∀ (l : Nat) (J Jx : List α → World → Prop) (W : World), Below w.heap.size w W → Bears X J → Bears X Jx →
    (∀ pre x W1, J pre W1 → pre.length < N → YieldAt F (n - 1) P l (encs x) W1 fun e W' =>
      (e = .returned (.bool true) ∧ J (pre ++ [x]) W' ∧ Leaves X W1 W') ∨ (e = .returned (.bool false) ∧ Jx (pre ++ [x]) W')) →
    J [] W →
    CallsIn F n P gf (#[.func (.yield l) #[] #[]] ++ lb) W fun e W' => (∃ v, e = .returned v) ∧ ((∃ xs, S xs ∧ J xs W') ∨ (∃ pre, Sp pre ∧ Jx pre W'))

theorem range_iter {α : Type} {g : Operand} {ps : Array Tmp} {assign body : Code} {Q : Exit → Act → World → Prop} {a : Act}
    (hro : F.round = none) (h1 : 1 ≤ n) {gf : Nat} {lb : Array Value} (hg : a.eval g = .func (.func gf) #[] lb) (hFg : F.fn gf) (eg : ∀ args w, (callFunc gf args).run P w = .ok (.enter gf args) w)
    {encs : α → Array Value} {S Sp : List α → Prop} {N X : Nat} {w0 : World} (hseq : Iter F (n - 1) P gf lb encs X S Sp N w0) (hX : X < w.heap.size)
    (hb0 : Below w0.heap.size w0 w) (hps : ∀ x, (encs x).size = ps.size)
    (I : List α → World → Prop) (Ix : Code → List α → World → Prop) (hI : OwnFrom w.heap.size I) (hIx : ∀ c, OwnFrom w.heap.size (Ix c)) (hIX : Bears X I) (hIxX : ∀ c, Bears X (Ix c)) (h0 : I [] w)
    (Ax : α → Act → World → Prop) (hAx : ∀ x a', OwnFrom w.heap.size (fun (_ : Unit) W => Ax x a' W))
    (hassign : ∀ (l : Nat) (pre : List α) (x : α) (W : World) (K : Act → World → Prop), I pre W → (∀ a' W', KeepsFrom w.heap.size W W' → Leaves X W W' → I pre W' → Ax x a' W' → K a' W') →
      assign.wpIn (F.inRound l) (n - 1 - 1) P (Exit.then K (fun _ _ _ => False)) { tmps := (ps.zip (encs x)).foldl (fun t (p, v) => t.setIfInBounds p v) a.tmps, defers := [] } W)
    (hbody : ∀ (l : Nat) (pre : List α) (x : α) (a' : Act) (W : World), w.heap.size ≤ l → (∃ r, W.heap[l]? = some (.loop r)) → I pre W → Ax x a' W → pre.length < N → body.wpIn (F.inRound l) (n - 1 - 1) P (ownPostG w.heap.size (Leaves X) I Ix (pre ++ [x]) W) a' W)
    (hdone : ∀ (D : Nat) (xs : List α) (W : World), w.heap.size ≤ D → S xs → I xs W → W.heap[D]? = some (.deferred (some [])) → Q .normal { a with defers := { target := .collected D, args := #[] } :: a.defers } W)
    (hstop : ∀ (D : Nat) (c : Code) (pre : List α) (W : World), w.heap.size ≤ D → Sp pre → Ix c pre W → W.heap[D]? = some (.deferred (some [])) → c.wpIn F n P Q { a with defers := { target := .collected D, args := #[] } :: a.defers } W) :
    (Code.rangeFunc g ps assign body).wpIn F n P Q a w := by
  refine wpIn_rangeFunc ?_
  intro fn hfn
  rw [hro]
  obtain ⟨rec, hrec⟩ : ∃ rec : LoopState → Option Code → Loop, rec = fun st pe => { state := st, pending := pe, fn, tmps := a.tmps, params := ps, assign, body, defers := w.heap.size } := ⟨_, rfl⟩
  obtain ⟨V, hV⟩ : ∃ V, (w.alloc (.deferred (some []))).alloc (.loop (rec .ready none)) = V := ⟨_, rfl⟩
  have sV : V.heap.size = w.heap.size + 2 := by rw [← hV]; simp
  have lV : V.heap[w.heap.size + 1]? = some (.loop (rec .ready none)) := by
    have := World.alloc_heap_new (w.alloc (.deferred (some []))) (.loop (rec .ready none))
    rw [World.size_alloc] at this
    rw [← hV]; exact this
  have dV : V.heap[w.heap.size]? = some (.deferred (some [])) := by
    rw [← hV]; exact (Below.heap_alloc _ _ _ (by simp)).trans (World.alloc_heap_new w _)
  have iV : I [] V := by rw [← hV]; exact hI.alloc _ (hI.alloc _ h0)
  have bV : Below w0.heap.size w0 V := by
    rw [← hV]; exact hb0.trans ((((Below.refl _ w).alloc (Nat.le_refl _) _).alloc (by simp) _).mono hb0.size)
  -- the two blocks of the loop's own book-keeping, beside what the caller keeps
  let Kept (st : LoopState) (pe : Option Code) (W : World) : Prop := W.heap[w.heap.size + 1]? = some (.loop (rec st pe)) ∧ W.heap[w.heap.size]? = some (.deferred (some []))
  have bearsKept : ∀ {st pe W W' row}, Kept st pe W → W.grownBy W' row → (∀ r, row = some r → r = X) → Kept st pe W' := fun hk hg' hr =>
    ⟨(hg'.block _ (Array.getElem?_eq_some_iff.1 hk.1).1 (fun e => by have := hr _ e.symm; omega)).trans hk.1,
     (hg'.block _ (Array.getElem?_eq_some_iff.1 hk.2).1 (fun e => by have := hr _ e.symm; omega)).trans hk.2⟩
  refine ⟨w.heap.size + 1, [{ target := .collected w.heap.size, args := #[] }], V, { target := .fn (.func gf) lb, args := #[.func (.yield (w.heap.size + 1)) #[] #[]] }, V, gf,
    #[.func (.yield (w.heap.size + 1)) #[] #[]] ++ lb, V, ?_, ?_, ?_, ?_, fun _ => h1, ?_⟩
  · rw [← hV, hrec]; exact run_enterLoop_outer _ _ _ _ _
  · simp only [resolve, hg]
    simp [go_sem]
  · intro f' hf'; simp [Target.leads] at hf'; subst hf'; exact hFg
  · simp [invoke, go_sem, eg]
  · refine (hseq (w.heap.size + 1) (fun pre W => I pre W ∧ Kept .ready none W) (fun pre W => ∃ c, Ix c pre W ∧ Kept .done (some c) W) V bV
      (fun s A B row hs hg' hr => ⟨hIX s A B row hs.1 hg' hr, bearsKept hs.2 hg' hr⟩)
      (fun s A B row hs hg' hr => by obtain ⟨c, hc, hk⟩ := hs; exact ⟨c, hIxX c s A B row hc hg' hr, bearsKept hk hg' hr⟩) ?_ ⟨iV, lV, dV⟩).mono ?_
    · rintro pre x W ⟨hi, hl, hk⟩ hlen
      have hy := run_yield (P := P) (args := encs x) hl (by rw [hrec]; exact hps x)
      rw [hrec] at hy
      refine ⟨fn, _, assign, body, hy, roundIn_of_wpIn hfn (hassign _ pre x W _ hi ?_)⟩
      clear hy
      intro a' U kU lU iU xU
      have hl1 := kU.same _ _ (by omega) hl rfl
      have hk1 := kU.same _ _ (Nat.le_refl _) hk rfl
      have lt1 : w.heap.size + 1 < U.heap.size := (Array.getElem?_eq_some_iff.1 hl1).1
      refine ⟨_, run_beginRound hl1 (by rw [hrec]), ?_⟩
      have hl2 : (U.putObj (w.heap.size + 1) (.loop { rec .ready none with state := .busy })).heap[w.heap.size + 1]? = some (.loop { rec .ready none with state := .busy }) := World.putObj_heap_same lt1
      have hk2 : (U.putObj (w.heap.size + 1) (.loop { rec .ready none with state := .busy })).heap[w.heap.size]? = some (.deferred (some [])) := (World.putObj_heap_other (by omega)).trans hk1
      have lU2 : Leaves X W (U.putObj (w.heap.size + 1) (.loop { rec .ready none with state := .busy })) := lU.trans (Leaves.putObj _ _ (by omega))
      refine wpIn_mono (hbody _ pre x a' _ (by omega) ⟨_, hl2⟩ (hI.putObj _ iU (by omega) hl1 rfl) ((hAx x a').putObj (s := ()) _ xU (by omega) hl1 rfl) hlen) ?_
      have fin : ∀ (jump : Option Code) (Z : World), KeepsFrom w.heap.size (U.putObj (w.heap.size + 1) (.loop { rec .ready none with state := .busy })) Z →
          (Instr.endRound (w.heap.size + 1) jump).run P Z = .ok (.bool jump.isNone) (Z.putObj (w.heap.size + 1) (.loop (rec (if jump.isNone then .ready else .done) jump))) ∧
          Z.heap[w.heap.size + 1]? = some (.loop { rec .ready none with state := .busy }) ∧
          Kept (if jump.isNone then .ready else .done) jump (Z.putObj (w.heap.size + 1) (.loop (rec (if jump.isNone then .ready else .done) jump))) := fun jump Z hZ => by
        have hlZ := hZ.same _ _ (by omega) hl2 rfl
        have := run_endRound (P := P) jump hlZ
        rw [hrec] at this
        refine ⟨by rw [hrec]; exact this, hlZ, World.putObj_heap_same (Array.getElem?_eq_some_iff.1 hlZ).1, (World.putObj_heap_other (by omega)).trans (hZ.same _ _ (Nat.le_refl _) hk2 rfl)⟩
      have leave : ∀ (c : Code) (Z : World), KeepsFrom w.heap.size (U.putObj (w.heap.size + 1) (.loop { rec .ready none with state := .busy })) Z → Ix c (pre ++ [x]) Z →
          (Instr.endRound (w.heap.size + 1) (some c)).run P Z = .ok (.bool false) (Z.putObj (w.heap.size + 1) (.loop (rec .done (some c)))) ∧
          (∃ c', Ix c' (pre ++ [x]) (Z.putObj (w.heap.size + 1) (.loop (rec .done (some c)))) ∧ Kept .done (some c') (Z.putObj (w.heap.size + 1) (.loop (rec .done (some c))))) := fun c Z hZ hi3 => by
        obtain ⟨hr, hl3, hk3⟩ := fin (some c) Z hZ
        exact ⟨hr, c, (hIx _).putObj _ hi3 (by omega) hl3 rfl, hk3⟩
      rintro e a3 Z hp
      cases e with
      | normal =>
        obtain ⟨hZ, lZ, hi3⟩ := hp
        obtain ⟨hr, hl3, hk3⟩ := fin none Z hZ
        exact ⟨_, _, hr, .inl ⟨rfl, ⟨hI.putObj _ hi3 (by omega) hl3 rfl, hk3⟩, (lU2.trans lZ).trans (Leaves.putObj _ _ (by omega))⟩⟩
      | ret => obtain ⟨hr, hx⟩ := leave .ret Z hp.1 hp.2; exact ⟨_, _, hr, .inr ⟨rfl, hx⟩⟩
      | exit id => obtain ⟨hr, hx⟩ := leave (.exit id) Z hp.1 hp.2; exact ⟨_, _, hr, .inr ⟨rfl, hx⟩⟩
      | goto t => obtain ⟨hr, hx⟩ := leave (.goto t) Z hp.1 hp.2; exact ⟨_, _, hr, .inr ⟨rfl, hx⟩⟩
      | panic ch => exact hp.elim
      | outgrown => exact hp.elim
    · rintro e Z ⟨⟨v, rfl⟩, (⟨xs, hS, hi, hl, hk⟩ | ⟨pre, hSp, c, hi, hl, hk⟩)⟩
      · refine ⟨none, _, by have := run_endLoop (P := P) hl (by rw [hrec]; simp); rw [hrec] at this; exact this, ?_⟩
        exact hdone _ xs _ (Nat.le_refl _) hS (hI.putObj _ hi (by omega) hl rfl) ((World.putObj_heap_other (by omega)).trans hk)
      · refine ⟨some c, _, by have := run_endLoop (P := P) hl (by rw [hrec]; simp); rw [hrec] at this; exact this, ?_⟩
        exact hstop _ c pre _ (Nat.le_refl _) hSp ((hIx c).putObj _ hi (by omega) hl rfl) ((World.putObj_heap_other (by omega)).trans hk)
variable {F : Fence} {n : Nat} {P : Program} {w : World}

/-- What an iterator's own call comes to, at whatever the caller keeps between the rounds. -/
def Iter3 {α : Type} (F : Fence) (n : Nat) (P : Program) (gf : Nat) (lb : Array Value) (encs : α → Array Value) (X : Nat) (S Sp : List α → Prop) (Nx : List α → α → Prop) (Ok : World → Prop) (w : World) : Prop :=
  ∀ (l : Nat) (J Jx : List α → World → Prop) (W : World), Below w.heap.size w W → Bears X J → Bears X Jx → (∀ pre W1, J pre W1 → Ok W1) →
    (∀ pre x W1, J pre W1 → Nx pre x → YieldAt F (n - 1) P l (encs x) W1 fun e W' =>
      (e = .returned (.bool true) ∧ J (pre ++ [x]) W' ∧ Leaves X W1 W') ∨ (e = .returned (.bool false) ∧ Jx (pre ++ [x]) W')) →
    J [] W →
    CallsIn F n P gf (#[.func (.yield l) #[] #[]] ++ lb) W fun e W' => (∃ v, e = .returned v) ∧ ((∃ xs, S xs ∧ J xs W') ∨ (∃ pre, Sp pre ∧ Jx pre W'))

theorem range_iter3 {α : Type} {g : Operand} {ps : Array Tmp} {assign body : Code} {Q : Exit → Act → World → Prop} {a : Act}
    (hro : F.round = none) (h1 : 1 ≤ n) {gf : Nat} {lb : Array Value} (hg : a.eval g = .func (.func gf) #[] lb) (hFg : F.fn gf) (eg : ∀ args w, (callFunc gf args).run P w = .ok (.enter gf args) w)
    {encs : α → Array Value} {S Sp : List α → Prop} {Nx : List α → α → Prop} {Ok : World → Prop} {X : Nat} {w0 : World} (hseq : Iter3 F (n - 1) P gf lb encs X S Sp Nx Ok w0) (hX : X < w.heap.size)
    (hb0 : Below w0.heap.size w0 w) (hps : ∀ x, (encs x).size = ps.size)
    (I : List α → World → Prop) (Ix : Code → List α → World → Prop) (hI : OwnFrom w.heap.size I) (hIx : ∀ c, OwnFrom w.heap.size (Ix c)) (hIX : Bears X I) (hIxX : ∀ c, Bears X (Ix c)) (hOk : ∀ pre W, I pre W → Ok W) (h0 : I [] w)
    (Ax : α → Act → World → Prop) (hAx : ∀ x a', OwnFrom w.heap.size (fun (_ : Unit) W => Ax x a' W))
    (hassign : ∀ (l : Nat) (pre : List α) (x : α) (W : World) (K : Act → World → Prop), I pre W → (∀ a' W', KeepsFrom w.heap.size W W' → Leaves X W W' → I pre W' → Ax x a' W' → K a' W') →
      assign.wpIn (F.inRound l) (n - 1 - 1) P (Exit.then K (fun _ _ _ => False)) { tmps := (ps.zip (encs x)).foldl (fun t (p, v) => t.setIfInBounds p v) a.tmps, defers := [] } W)
    (hbody : ∀ (l : Nat) (pre : List α) (x : α) (a' : Act) (W : World), w.heap.size ≤ l → (∃ r, W.heap[l]? = some (.loop r)) → I pre W → Ax x a' W → Nx pre x → body.wpIn (F.inRound l) (n - 1 - 1) P (ownPostG w.heap.size (Leaves X) I Ix (pre ++ [x]) W) a' W)
    (hdone : ∀ (D : Nat) (xs : List α) (W : World), w.heap.size ≤ D → S xs → I xs W → W.heap[D]? = some (.deferred (some [])) → Q .normal { a with defers := { target := .collected D, args := #[] } :: a.defers } W)
    (hstop : ∀ (D : Nat) (c : Code) (pre : List α) (W : World), w.heap.size ≤ D → Sp pre → Ix c pre W → W.heap[D]? = some (.deferred (some [])) → c.wpIn F n P Q { a with defers := { target := .collected D, args := #[] } :: a.defers } W) :
    (Code.rangeFunc g ps assign body).wpIn F n P Q a w := by
  refine wpIn_rangeFunc ?_
  intro fn hfn
  rw [hro]
  obtain ⟨rec, hrec⟩ : ∃ rec : LoopState → Option Code → Loop, rec = fun st pe => { state := st, pending := pe, fn, tmps := a.tmps, params := ps, assign, body, defers := w.heap.size } := ⟨_, rfl⟩
  obtain ⟨V, hV⟩ : ∃ V, (w.alloc (.deferred (some []))).alloc (.loop (rec .ready none)) = V := ⟨_, rfl⟩
  have sV : V.heap.size = w.heap.size + 2 := by rw [← hV]; simp
  have lV : V.heap[w.heap.size + 1]? = some (.loop (rec .ready none)) := by
    have := World.alloc_heap_new (w.alloc (.deferred (some []))) (.loop (rec .ready none))
    rw [World.size_alloc] at this
    rw [← hV]; exact this
  have dV : V.heap[w.heap.size]? = some (.deferred (some [])) := by
    rw [← hV]; exact (Below.heap_alloc _ _ _ (by simp)).trans (World.alloc_heap_new w _)
  have iV : I [] V := by rw [← hV]; exact hI.alloc _ (hI.alloc _ h0)
  have bV : Below w0.heap.size w0 V := by
    rw [← hV]; exact hb0.trans ((((Below.refl _ w).alloc (Nat.le_refl _) _).alloc (by simp) _).mono hb0.size)
  -- the two blocks of the loop's own book-keeping, beside what the caller keeps
  let Kept (st : LoopState) (pe : Option Code) (W : World) : Prop := W.heap[w.heap.size + 1]? = some (.loop (rec st pe)) ∧ W.heap[w.heap.size]? = some (.deferred (some []))
  have bearsKept : ∀ {st pe W W' row}, Kept st pe W → W.grownBy W' row → (∀ r, row = some r → r = X) → Kept st pe W' := fun hk hg' hr =>
    ⟨(hg'.block _ (Array.getElem?_eq_some_iff.1 hk.1).1 (fun e => by have := hr _ e.symm; omega)).trans hk.1,
     (hg'.block _ (Array.getElem?_eq_some_iff.1 hk.2).1 (fun e => by have := hr _ e.symm; omega)).trans hk.2⟩
  refine ⟨w.heap.size + 1, [{ target := .collected w.heap.size, args := #[] }], V, { target := .fn (.func gf) lb, args := #[.func (.yield (w.heap.size + 1)) #[] #[]] }, V, gf,
    #[.func (.yield (w.heap.size + 1)) #[] #[]] ++ lb, V, ?_, ?_, ?_, ?_, fun _ => h1, ?_⟩
  · rw [← hV, hrec]; exact run_enterLoop_outer _ _ _ _ _
  · simp only [resolve, hg]
    simp [go_sem]
  · intro f' hf'; simp [Target.leads] at hf'; subst hf'; exact hFg
  · simp [invoke, go_sem, eg]
  · refine (hseq (w.heap.size + 1) (fun pre W => I pre W ∧ Kept .ready none W) (fun pre W => ∃ c, Ix c pre W ∧ Kept .done (some c) W) V bV
      (fun s A B row hs hg' hr => ⟨hIX s A B row hs.1 hg' hr, bearsKept hs.2 hg' hr⟩)
      (fun s A B row hs hg' hr => by obtain ⟨c, hc, hk⟩ := hs; exact ⟨c, hIxX c s A B row hc hg' hr, bearsKept hk hg' hr⟩) (fun pre W1 h => hOk pre W1 h.1) ?_ ⟨iV, lV, dV⟩).mono ?_
    · rintro pre x W ⟨hi, hl, hk⟩ hlen
      have hy := run_yield (P := P) (args := encs x) hl (by rw [hrec]; exact hps x)
      rw [hrec] at hy
      refine ⟨fn, _, assign, body, hy, roundIn_of_wpIn hfn (hassign _ pre x W _ hi ?_)⟩
      clear hy
      intro a' U kU lU iU xU
      have hl1 := kU.same _ _ (by omega) hl rfl
      have hk1 := kU.same _ _ (Nat.le_refl _) hk rfl
      have lt1 : w.heap.size + 1 < U.heap.size := (Array.getElem?_eq_some_iff.1 hl1).1
      refine ⟨_, run_beginRound hl1 (by rw [hrec]), ?_⟩
      have hl2 : (U.putObj (w.heap.size + 1) (.loop { rec .ready none with state := .busy })).heap[w.heap.size + 1]? = some (.loop { rec .ready none with state := .busy }) := World.putObj_heap_same lt1
      have hk2 : (U.putObj (w.heap.size + 1) (.loop { rec .ready none with state := .busy })).heap[w.heap.size]? = some (.deferred (some [])) := (World.putObj_heap_other (by omega)).trans hk1
      have lU2 : Leaves X W (U.putObj (w.heap.size + 1) (.loop { rec .ready none with state := .busy })) := lU.trans (Leaves.putObj _ _ (by omega))
      refine wpIn_mono (hbody _ pre x a' _ (by omega) ⟨_, hl2⟩ (hI.putObj _ iU (by omega) hl1 rfl) ((hAx x a').putObj (s := ()) _ xU (by omega) hl1 rfl) hlen) ?_
      have fin : ∀ (jump : Option Code) (Z : World), KeepsFrom w.heap.size (U.putObj (w.heap.size + 1) (.loop { rec .ready none with state := .busy })) Z →
          (Instr.endRound (w.heap.size + 1) jump).run P Z = .ok (.bool jump.isNone) (Z.putObj (w.heap.size + 1) (.loop (rec (if jump.isNone then .ready else .done) jump))) ∧
          Z.heap[w.heap.size + 1]? = some (.loop { rec .ready none with state := .busy }) ∧
          Kept (if jump.isNone then .ready else .done) jump (Z.putObj (w.heap.size + 1) (.loop (rec (if jump.isNone then .ready else .done) jump))) := fun jump Z hZ => by
        have hlZ := hZ.same _ _ (by omega) hl2 rfl
        have := run_endRound (P := P) jump hlZ
        rw [hrec] at this
        refine ⟨by rw [hrec]; exact this, hlZ, World.putObj_heap_same (Array.getElem?_eq_some_iff.1 hlZ).1, (World.putObj_heap_other (by omega)).trans (hZ.same _ _ (Nat.le_refl _) hk2 rfl)⟩
      have leave : ∀ (c : Code) (Z : World), KeepsFrom w.heap.size (U.putObj (w.heap.size + 1) (.loop { rec .ready none with state := .busy })) Z → Ix c (pre ++ [x]) Z →
          (Instr.endRound (w.heap.size + 1) (some c)).run P Z = .ok (.bool false) (Z.putObj (w.heap.size + 1) (.loop (rec .done (some c)))) ∧
          (∃ c', Ix c' (pre ++ [x]) (Z.putObj (w.heap.size + 1) (.loop (rec .done (some c)))) ∧ Kept .done (some c') (Z.putObj (w.heap.size + 1) (.loop (rec .done (some c))))) := fun c Z hZ hi3 => by
        obtain ⟨hr, hl3, hk3⟩ := fin (some c) Z hZ
        exact ⟨hr, c, (hIx _).putObj _ hi3 (by omega) hl3 rfl, hk3⟩
      rintro e a3 Z hp
      cases e with
      | normal =>
        obtain ⟨hZ, lZ, hi3⟩ := hp
        obtain ⟨hr, hl3, hk3⟩ := fin none Z hZ
        exact ⟨_, _, hr, .inl ⟨rfl, ⟨hI.putObj _ hi3 (by omega) hl3 rfl, hk3⟩, (lU2.trans lZ).trans (Leaves.putObj _ _ (by omega))⟩⟩
      | ret => obtain ⟨hr, hx⟩ := leave .ret Z hp.1 hp.2; exact ⟨_, _, hr, .inr ⟨rfl, hx⟩⟩
      | exit id => obtain ⟨hr, hx⟩ := leave (.exit id) Z hp.1 hp.2; exact ⟨_, _, hr, .inr ⟨rfl, hx⟩⟩
      | goto t => obtain ⟨hr, hx⟩ := leave (.goto t) Z hp.1 hp.2; exact ⟨_, _, hr, .inr ⟨rfl, hx⟩⟩
      | panic ch => exact hp.elim
      | outgrown => exact hp.elim
    · rintro e Z ⟨⟨v, rfl⟩, (⟨xs, hS, hi, hl, hk⟩ | ⟨pre, hSp, c, hi, hl, hk⟩)⟩
      · refine ⟨none, _, by have := run_endLoop (P := P) hl (by rw [hrec]; simp); rw [hrec] at this; exact this, ?_⟩
        exact hdone _ xs _ (Nat.le_refl _) hS (hI.putObj _ hi (by omega) hl rfl) ((World.putObj_heap_other (by omega)).trans hk)
      · refine ⟨some c, _, by have := run_endLoop (P := P) hl (by rw [hrec]; simp); rw [hrec] at this; exact this, ?_⟩
        exact hstop _ c pre _ (Nat.le_refl _) hSp ((hIx c).putObj _ hi (by omega) hl rfl) ((World.putObj_heap_other (by omega)).trans hk)
end Go.Proofs.YtdgdilbbpnlplaaDoor.Range
