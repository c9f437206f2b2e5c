/- B64Joined: texts of which the first has three times some bytes are encoded as one behind the other: for every input, no condition. -/
import Derived.Test.YtpoifmcjahjphaaPureB64
import Derived.Test.YtpoifmcjahjphaaPrx3
set_option linter.unusedVariables false
namespace Go.Proofs.Ytpoifmcjahjphaa.Pure
open Go Go.RowKit Go.Proofs.Ytpoifmcjahjphaa.Pr Go.Proofs.YtpoifmcjahjphaaW.PrintWords Go.Proofs.YtpoifmcjahjphaaW.PrintLast

theorem B64Joined : muslinlaw01_B64Joined.Pure := by
  intro s t hs ht
  obtain ⟨l, rfl⟩ : ∃ l, s = B l := ⟨_, B_of s⟩
  obtain ⟨m, rfl⟩ : ∃ m, t = B m := ⟨_, B_of t⟩
  rw [B_size] at hs ht
  refine Ev.ex ?_
  unfold muslinlaw01_B64Joined.f
  have hlive : Ev (fun k => muslinlaw01_B64Joined.j0 k (B l) (B m) true) true := Ev.succ (by
    simp only [muslinlaw01_B64Joined.j0]
    exact Ev.ifp trivial (Ev.bind live_ev (Ev.pure _)))
  refine Ev.bindc (short_f l) ?_
  by_cases h : l.length ≤ 5000
  · refine Ev.ifp (decide_eq_true h) (Ev.bindc (short_f m) ?_)
    by_cases h' : m.length ≤ 5000
    · refine Ev.ifp (decide_eq_true h') ?_
      rw [B_size]
      by_cases h3 : l.length % 3 = 0
      · rw [show (((l.length : Int) % 3) != 0) = false from by rw [bne_eq_false_iff_eq]; omega]
        refine Ev.succ ?_
        simp only [muslinlaw01_B64Joined.j0]
        have e1 := encB_len l
        have e2 := encB_len m
        refine Ev.ifn (by simp) (Ev.ifp (by rw [B_size, B_size]; omega) (Ev.bindc (a := B (encB (l ++ m))) ?_ (Ev.bindc (enc_f l (by omega)) (Ev.bindc (enc_f m (by omega)) (Ev.ifp (by rw [B_size, B_size]; omega) (Ev.ifp ?_ (Ev.bind live_ev (Ev.pure _))))))))
        · rw [B_append]; exact enc_f (l ++ m) (by rw [List.length_append]; omega)
        · rw [B_append, B_list, B_list, encB_append l m h3]
      · rw [show (((l.length : Int) % 3) != 0) = true from by rw [bne_iff_ne]; omega]
        exact hlive
    · exact Ev.ifn (by simpa using h') hlive
  · exact Ev.ifn (by simpa using h) hlive
end Go.Proofs.Ytpoifmcjahjphaa.Pure
