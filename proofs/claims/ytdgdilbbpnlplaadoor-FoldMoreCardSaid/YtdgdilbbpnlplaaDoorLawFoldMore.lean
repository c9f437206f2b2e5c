/- What is proved: the law muslinlaw21.FoldMore answers true at every input, never panics and leaves its arguments as they read, as Rows.FoldMoreCardSaid states it: a blockquote and a break more at the end leave fold.Where's answer as it was, where it had one; a word behind them puts an end to it.
Conditions: none but those in the given statement's own cells; what the law says of the program it says for trees of at most 60 nodes, at most 35 deep, with at most 40 attributes a node and texts of at most 300 bytes (for other inputs it answers by fixed samples alone). What the row lists of the program's variables is tied to the program's text (the card).
The row is made out of the plain law and the walk, printed or by hand. -/
import Derived.Test.YtdgdilbbpnlplaaDoorRows
import Derived.Test.YtdgdilbbpnlplaaDoorMore
import Derived.Test.YtdgdilbbpnlplaaDoorPureFoldMore
import Derived.Test.YtdgdilbbpnlplaaDoorOpen
import Derived.Test.YtdgdilbbpnlplaaDoorLaid
import Derived.WalkKit
import Derived.ProofKit
import Derived.OpenShut
import Derived.ShutString
import Derived.ChangeOld
import Derived.Below
import Derived.SizedLaws
import Derived.LaidMore
import Derived.Lay
import Derived.SevenTiedAt
import Derived.Stop.Joined
import Derived.Test.YtdgdilbbpnlplaaDoorCards
import Derived.Test.YtdgdilbbpnlplaaDoorTie
set_option linter.unusedVariables false
namespace Go.Proofs.YtdgdilbbpnlplaaDoor.foldMore
open Go.ChangeShapes Go.WideShapes Go.ChangeAt Go.RowKit
open Go.ChangeMaps (open_string shut_string)
theorem own : ownKnob Tryd.prog.godebug = none := by kernel_rfl
theorem laidOut : laidOutB Tryd.prog = true := by kernel_rfl
set_option maxRecDepth 100000 in
theorem lifted (os : Os) (started : os.Started) (H : Type) (enc : TypeId × Value → H) :
    ReturnsInHanded {} Tryd.checked os 7 .any (fun w args => (Rows.foldMoreSpec.pre enc Tryd.prog Tryd.f7 Rows.foldMoreRow.domain false w args ∧ laidMetH Tryd.prog Rows.foldMoreRow.laid w) ∧ sizedMet enc Tryd.prog Tryd.f7 (OpenSpec.ofChange Rows.foldMoreSpec) false w args) (Rows.foldMoreSpec.post enc Tryd.prog Tryd.f7 false true false false) := by
  refine handed_open (C := Tryd.checked) (X := fun w _ => laidMetH Tryd.prog Rows.foldMoreRow.laid w) (fun _ _ _ hh h => h.of_heap hh) own started (by kernel_rfl) Tryd.func7
    (ChangeSpec.witness_shaped (enc := enc) (C := Tryd.checked) (os := os) (X := fun w _ => laidMetH Tryd.prog Rows.foldMoreRow.laid w) false (World.laidAll Tryd.prog os Rows.foldMoreRow.laid) #[.slice none 0 0] 8 (World.laidAll_os _ _ _)
      (World.shaped_of_ZipB (by kernel_rfl) (by kernel_rfl)) (by kernel_rfl) (by kernel_rfl) (by kernel_rfl)
      (by rw [MakeChecks.laidMetH_plain _ _ _ (by kernel_rfl)]; exact laidMet_laidAll _ (by kernel_rfl) (by kernel_rfl))) ?_
  intro W base args ds gs before hval0 hW hcnd hsz0 hLd hSo
  have hsz : (DataW.weightsEach Tryd.prog (Tryd.f7.params.toList ++ Rows.foldMoreSpec.plain.varTypes Tryd.prog) (ds ++ gs)).all (· ≤ reachBytes) = true := hsz0
  have hval : ∀ (j : Nat) t v, Tryd.f7.params[j]? = some t → args[j]? = some v → Value.okWide Tryd.prog W .any base t v := hval0
  have hW' := hW
  obtain ⟨p, q, hA0, hV, rfl, hfz, hnd⟩ := hW
  have hA : DataW.TrodAll enc Tryd.prog W 0 (fun _ => true) true Tryd.f7.params.toList args.toList ds p := hA0
  rw [Tryd.params7] at hA hval hsz
  obtain ⟨v0, vs0, d0, ds0, p0, q0, hargs, rfl, rfl, h0, r0⟩ := trodAll_cons hA
  obtain ⟨rfl, rfl, rfl⟩ := trodAll_nil r0
  obtain rfl : args = #[v0] := by cases args; simp_all
  obtain ⟨rfl, rfl⟩ := trodVars_none hV
  obtain ⟨a0, len0, cap0, rfl⟩ := okWide_slice Tryd.underlying22 (hval 0 22 v0 rfl rfl)
  have k0 := h0
  have lt0 : ∀ x ∈ p0, x.block < W.heap.size := by obtain ⟨m, hm⟩ := k0; exact DataW.trod_lt m _ _ _ hm
  obtain ⟨l0, rfl, hc0, hC0⟩ := Open.open22 h0
  clear hA0 hval0 hsz0 hsz
  obtain ⟨k, hk⟩ := Pure.FoldMore l0
  refine (Pr.muslinlaw21_FoldMore.calls k _ _ l0 true W hC0 hc0 hk (fd_of hLd hSo)).mono fun e W' ⟨he, bel⟩ => ?_
  subst he
  exact ⟨_, rfl, _, _, _, [], _, [], hW', trodAll_mk1 (shut_bool Tryd.underlying4 _), (trodAll_cons_mk (Below.trod laidOut (by kernel_rfl) (of_decide_eq_true (by kernel_rfl)) k0 bel lt0) trodAll_mk0), rfl, bel.frame _, fun h => by cases h⟩
theorem over : Rows.foldMoreRow.holds Tryd.pinned (OpenSpec.ofChange Rows.foldMoreSpec) :=
  OpenClaim.holds_of_wide 7 Tryd.f7 rfl rfl rfl rfl rfl rfl rfl ⟨rfl, rfl, rfl, rfl, rfl⟩ rfl rfl rfl rfl rfl (by kernel_rfl) Tryd.func7 (by kernel_rfl)
    (of_decide_eq_true (by kernel_rfl)) (by unfold Func.isWrapper; first | (rw [if_pos (by decide +kernel)]; kernel_rfl) | (rw [if_neg (by decide +kernel)]; exact ⟨rfl, rfl⟩))
    (fun os started H enc _ => lifted os started H enc)
theorem proved : Rows.FoldMoreSaid := over
end Go.Proofs.YtdgdilbbpnlplaaDoor.foldMore
namespace Go.Proofs.YtdgdilbbpnlplaaDoor
/-- The row. -/
theorem foldMore_holds : Rows.FoldMoreSaid := foldMore.proved
/-- The card: what the row lists is tied to the program's text. -/
theorem foldMore_card_holds : Rows.FoldMoreCardSaid :=
  Claim7.holds_tied_plain_at .later [] [.data, .data, .pinned] true (true, "0dcd0f0a393bc7301930da0ad1b18dfffa38102507e0cbfc369270e40ec6fd7d") false
    foldMore_holds (fun _ h => by cases h) (by kernel_rfl) (fun _ h => by cases h) foldMore_row_tie rfl ⟨rfl, rfl⟩ (by kernel_rfl) rfl
    (fun f fn hf hfn => by
      obtain rfl : f = 7 := Option.some.inj ((show Tryd.prog.funcNamed "muslin/muslinlaw21.FoldMore" = some 7 by kernel_rfl).symm.trans hf) |>.symm
      obtain rfl : fn = Tryd.f7 := (Option.some.inj (Tryd.func7.symm.trans hfn)).symm
      exact ⟨by kernel_rfl, fun j t ht => by
        rw [Tryd.params7] at ht
        have hm : t ∈ [22] := by simpa using Array.mem_of_getElem? ht
        have hall : ([22].all fun u => !Tryd.prog.wantsStandIn u) = true := by kernel_rfl
        exact (show Tryd.prog.wantsStandIn t = false by simpa using List.all_eq_true.1 hall t hm)⟩)
    (by kernel_rfl)
end Go.Proofs.YtdgdilbbpnlplaaDoor
