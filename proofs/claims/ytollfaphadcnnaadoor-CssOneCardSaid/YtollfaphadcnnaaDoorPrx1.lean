/- Written by a program of this session (printa.py), with functions proved by hand counted as printed; Lean checks it. -/
import Derived.Test.YtollfaphadcnnaaDoorPrx0
import Derived.ChangeKeysEq
namespace Go.Proofs.YtollfaphadcnnaaDoor.Pr
open Go.RowKit Go.Proofs.YtollfaphadcnnaaDoorW.PrintWords Go.Proofs.YtollfaphadcnnaaDoorW.PrintLast Go.Proofs.YtollfaphadcnnaaDoorW.PrintMore
attribute [local go_sem] max2_int min2_int max_two min_two max_three min_three max_four min_four   -- for this text's walks alone
set_option linter.unusedVariables false
set_option linter.unusedSimpArgs false

theorem eqA29 (d : Nat) (w : World) (x0 y0 : ByteArray) (x1 y1 : ByteArray) :
    (Op.equalIn (d + 2) 29 (.agg #[.string x0, .string x1]) (.agg #[.string y0, .string y1])).run Tryd.prog w = .ok (x0.toList == y0.toList && (x1.toList == y1.toList)) w := by
  obtain ⟨i9, h9⟩ : ∃ i, Tryd.prog.info? 9 = some i := Option.isSome_iff_exists.1 (by kernel_rfl)
  rw [run_equalIn_array w (d + 1) _ _ Tryd.underlying29 h9]
  have hc : Tryd.prog.cellsOf 9 = 1 := by kernel_rfl
  have a0 : (part 9 #[.string x0, .string x1] 0).run Tryd.prog w = .ok (.string x0) w := by go_simp
  have a1 : (part 9 #[.string x0, .string x1] 1).run Tryd.prog w = .ok (.string x1) w := by go_simp
  have b0 : (part 9 #[.string y0, .string y1] 0).run Tryd.prog w = .ok (.string y0) w := by go_simp
  have b1 : (part 9 #[.string y0, .string y1] 1).run Tryd.prog w = .ok (.string y1) w := by go_simp
  have e0 : (Op.equalIn (d + 1) 9 (.string x0) (.string y0)).run Tryd.prog w = .ok (x0.toList == y0.toList) w := by go_simp
  have e1 : (Op.equalIn (d + 1) 9 (.string x1) (.string y1)).run Tryd.prog w = .ok (x1.toList == y1.toList) w := by go_simp
  have hr : List.range 2 = [0, 1] := rfl
  rw [hr, hc]
  generalize (x0.toList == y0.toList) = q0 at *
  generalize (x1.toList == y1.toList) = q1 at *
  simp only [Op.eqItems, Sem.run_bind, Nat.zero_mul, Nat.mul_one, a0, b0, e0, Result.andThen_ok]
  cases q0
  · simp
  · simp only [Bool.not_true, Bool.false_eq_true, if_false, Sem.run_bind, a1, b1, e1, Result.andThen_ok]
    cases q1 <;> simp
end Go.Proofs.YtollfaphadcnnaaDoor.Pr
