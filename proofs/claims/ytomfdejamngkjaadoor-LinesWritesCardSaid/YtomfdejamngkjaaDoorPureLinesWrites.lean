/- LinesWrites: any fields and body as a message, or why there is none. -/
import Derived.Test.YtomfdejamngkjaaDoorPureWrite
set_option linter.unusedVariables false
set_option linter.unusedSimpArgs false
namespace Go.Proofs.YtomfdejamngkjaaDoor.Pure
open Go Go.RowKit Go.Proofs.YtomfdejamngkjaaDoor.Pr Go.Proofs.YtomfdejamngkjaaDoorW.PrintWords Go.Proofs.YtomfdejamngkjaaDoorW.PrintLast Plain Go.Proofs.YtomfdejamngkjaaDoor
theorem wr_j0_true (l : List S29) (body : ByteArray) : Ev (fun k => muslinlaw06_LinesWrites.j0 k l body true) true := by
  refine .succ ?_
  simp only [muslinlaw06_LinesWrites.j0]
  exact .ifp (by simp) (.bind live_ev (.pure _))
theorem wr_j0 (l : List S29) (body : ByteArray) (hf : fewB l = true) (hb : body.size ≤ 5000) : Ev (fun k => muslinlaw06_LinesWrites.j0 k l body false) true := by
  refine .succ ?_
  simp only [muslinlaw06_LinesWrites.j0]
  refine .ifn (by simp) (.bindc (writeF l body hf hb) (.bind (write_ev l body hf hb) ?_))
  exact .ifp rfl (.ifp rfl (.bind live_ev (.pure _)))
theorem LinesWrites (l : List S29) (a1 : ByteArray) (_ : a1.size ≤ 140737488351232) : ∃ k, muslinlaw06_LinesWrites.f k l a1 = some true := by
  refine Ev.ex ?_
  unfold muslinlaw06_LinesWrites.f muslinlaw06_short.f
  refine .bind (few_ev l) ?_
  cases hf : fewB l with
  | false => exact .ifn (by simp) (wr_j0_true _ _)
  | true =>
    refine .ifp rfl (.bindc rfl ?_)
    by_cases h2 : a1.size ≤ 5000
    · rw [show decide ((a1.size : Int) ≤ 5000) = true from decide_eq_true (by omega)]
      exact wr_j0 l a1 hf h2
    · rw [show decide ((a1.size : Int) ≤ 5000) = false from decide_eq_false (by omega)]
      exact wr_j0_true _ _
end Go.Proofs.YtomfdejamngkjaaDoor.Pure
