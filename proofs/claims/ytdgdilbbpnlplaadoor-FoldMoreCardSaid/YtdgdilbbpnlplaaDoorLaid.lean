/- What the rows' laid condition, and a world's shape, give the walks: the library's variable and the package's own. -/
import Derived.Test.YtdgdilbbpnlplaaDoorGiven
import Derived.Test.YtdgdilbbpnlplaaDoorRows
import Derived.Deep.Slices
import Derived.ChangeSame
import Derived.Handed
import Derived.FnData
import Derived.MakeChecks
import Derived.Shelf.Vars
set_option linter.unusedVariables false
namespace Go.Proofs.YtdgdilbbpnlplaaDoor
open Go Go.RowKit Go.ChangeShapes
theorem gMark : Tryd.prog.globalNamed "muslin/fold.mark" = some 0 := by kernel_rfl
theorem tMark : (Tryd.prog.globals[0]?).map (·.type) = some 41 := by kernel_rfl
theorem fd_of {W : World} (h : laidMetH Tryd.prog Rows.foldAnyRow.laid W) (hs : W.ShapedOpen Tryd.prog) : FdW W := by
  refine ⟨cell_of_shapedOpen_int (zero := #[.int .i64 0]) (t := 3) hs (of_decide_eq_true (by kernel_rfl)) (by kernel_rfl) rfl (by kernel_rfl) (by kernel_rfl) Tryd.underlying3, ?_⟩
  rw [MakeChecks.laidMetH_plain _ _ _ (by kernel_rfl)] at h
  obtain ⟨ps, ⟨g0, t0, cs0, f0, p0, q0, hg0, ht0, hv0, hd0, ⟨g1, t1, cs1, f1, p1, q1, hg1, ht1, hv1, hd1, _, _⟩, _⟩, _, _⟩ := h
  obtain rfl := Option.some.inj (gMark.symm.trans hg1)
  obtain rfl := Option.some.inj (tMark.symm.trans ht1)
  obtain ⟨y0, y1, n, hx, hlen, h0, h1⟩ := trod_struct2 Tryd.underlying41 hd1
  obtain ⟨s0, e0, z0, _⟩ := DataW.trod_string Tryd.underlying9 h0
  obtain ⟨s1, e1, z1, _⟩ := DataW.trod_string Tryd.underlying9 h1
  have hl2 : cs1.toList.length = 2 := hlen.trans (by kernel_rfl)
  have hx1 := (Prod.mk.inj hx).1
  unfold Rows.laid_muslin_fold_mark at hx1
  rw [z0, z1] at hx1
  simp only [DataW.agg.injEq, List.cons.injEq, DataW.lit.injEq, Lit.string.injEq, and_true] at hx1
  have c9 : Tryd.prog.cellsOf 9 = 1 := by kernel_rfl
  simp only [c9] at e0 e1
  obtain ⟨u, v, hcs⟩ : ∃ u v, cs1.toList = [u, v] := by
    match h : cs1.toList, hl2 with
    | [u, v], _ => exact ⟨u, v, rfl⟩
  rw [hcs] at e0 e1
  have eu : u = .string s0 := by simpa using e0
  have ev : v = .string s1 := by simpa using e1
  have es0 : s0 = ⟨#[116, 105, 116, 108, 101]⟩ := by rw [← Lib.mk_data s0, ← hx1.1]
  have es1 : s1 = ⟨#[113, 117, 111, 116, 101, 100]⟩ := by rw [← Lib.mk_data s1, ← hx1.2]
  have ec : cs1 = #[u, v] := by rw [← hcs]
  refine ⟨?_, ?_⟩
  · rw [World.var?_cell hg1 hv1 0, ec, eu, es0]; rfl
  · rw [World.var?_cell hg1 hv1 1, ec, ev, es1]; rfl
/-- A row's call, its contract told the world's shape, too. -/
theorem handed_open {H : Type} {enc : TypeId × Value → H} {C : Checked} {os : Os} {f : FuncId} {fn : Func} {s : ChangeSpec} {conds : List PathCond} {apart fresh handsOn again : Bool} {X : World → Array Value → Prop}
    (hX : ∀ (w w' : World) (args : Array Value), w.heap = w'.heap → X w args → X w' args)
    (own : ownKnob C.prog.godebug = none) (started : os.Started) (noInit : C.prog.inits.idxOf? f = none) (hfn : C.prog.funcs[f]? = some fn)
    (witness : ∃ (w : World) (tape : Tape) (i : Input), w.os = os ∧ (w.forCall tape i).Shaped C.prog ∧ i.vars = [] ∧ Input.okWide C.prog (w.forCall tape i) .any w.heap.size f i ∧
      ((s.pre enc C.prog fn conds apart (w.forCall tape i).memory i.args ∧ X (w.forCall tape i).memory i.args) ∧ sizedMet enc C.prog fn (OpenSpec.ofChange s) apart (w.forCall tape i).memory i.args) ∧ Assume.holds {} C.prog (lone (Frame.enter C.prog f i.args .normal) [] (w.forCall tape i)))
    (contract : ∀ (W : World) (base : Nat) (args : Array Value) (ds gs : List (DataW H)) (before : List MemPlace),
      (∀ (j : Nat) t v, fn.params[j]? = some t → args[j]? = some v → Value.okWide C.prog W .any base t v) →
      DataW.Whole enc C.prog fn.params.toList s.vars apart W args.toList ds gs before →
      conds.all (PathCond.test C.prog ⟨fn.params.toList, ds, s.plain.varTypes C.prog, gs⟩) = true →
      (DataW.weightsEach C.prog (fn.params.toList ++ s.plain.varTypes C.prog) (ds ++ gs)).all (· ≤ reachBytes) = true → X W args → W.ShapedOpen C.prog →
      Calls C.prog f args W fun e W' => ∃ v, e = .returned v ∧ s.post enc C.prog fn apart fresh handsOn again W args v W') :
    ReturnsInHanded {} C os f .any (fun w args => (s.pre enc C.prog fn conds apart w args ∧ X w args) ∧ sizedMet enc C.prog fn (OpenSpec.ofChange s) apart w args) (s.post enc C.prog fn apart fresh handsOn again) := by
  refine returnsInHanded_of_calls own started noInit witness fun w tape i _ hsh _ hok hpre _ => ?_
  obtain ⟨_, _, _, g, hg, _, _, _, _, hval⟩ := hok
  obtain rfl : g = fn := Option.some.inj (hg.symm.trans hfn)
  obtain ⟨⟨⟨ds, gs, before, hw, hc⟩, hx⟩, hz⟩ := hpre
  exact (contract (w.forCall tape i) w.heap.size i.args ds gs before hval (DataW.Whole.of_heap (w' := w.forCall tape i) (by rfl) hw) hc (hz.weights hw) (hX _ _ _ (by rfl) hx) hsh).mono fun e W' h => by
    obtain ⟨v, rfl, hp⟩ := h
    exact ChangeSpec.post_blind hp
end Go.Proofs.YtdgdilbbpnlplaaDoor
