/- B64Back: what is encoded is decoded, wrapped or not, with blanks ahead, and anything behind a sign of its end: for every input, no condition. -/
import Derived.Test.YtpoifmcjahjphaaPureB64
import Derived.Test.YtpoifmcjahjphaaPrx2
set_option linter.unusedVariables false
namespace Go.Proofs.Ytpoifmcjahjphaa.Pure
open Go Go.RowKit Go.Proofs.Ytpoifmcjahjphaa.Pr Go.Proofs.YtpoifmcjahjphaaW.PrintWords Go.Proofs.YtpoifmcjahjphaaW.PrintLast

theorem B64Back : muslinlaw01_B64Back.Pure := by
  intro s w b hs hw hb
  obtain ⟨l, rfl⟩ : ∃ l, s = B l := ⟨_, B_of s⟩
  obtain ⟨m, rfl⟩ : ∃ m, b = B m := ⟨_, B_of b⟩
  rw [B_size] at hs hb
  have hw' := wf_i64 hw
  refine Ev.ex ?_
  unfold muslinlaw01_B64Back.f
  have hlive : Ev (fun k => muslinlaw01_B64Back.j0 k (B l) w (B m) true) true := Ev.succ (by
    simp only [muslinlaw01_B64Back.j0]
    exact Ev.ifp trivial (Ev.bind live_ev (Ev.pure _)))
  refine Ev.bindc (short_f l) ?_
  by_cases h : l.length ≤ 5000
  · refine Ev.ifp (decide_eq_true h) (Ev.bindc (short_f m) ?_)
    by_cases h' : m.length ≤ 5000
    · rw [show (!decide (m.length ≤ 5000)) = false from by simp [h']]
      refine Ev.succ ?_
      simp only [muslinlaw01_B64Back.j0]
      have e1 := encB_len l
      have e2 := wrapL_len (wid w) (wid_pos w).1 10000 (encB l)
      refine Ev.ifn (by simp) (Ev.bindc (enc_f l (by omega)) (Ev.bindc (dec_f _ (by omega)) (Ev.ifp (by rw [B_list, B_list, dec_enc])
        (Ev.bind (wrap_ev l w (by omega) hw'.2) (Ev.bindc (dec_f _ (by omega)) (Ev.ifp (by rw [B_list, B_list, decB_congr (core_wrap _ _ _), dec_enc])
          (Ev.bindc (enc_f l (by omega)) (Ev.ifp (by rw [B_size]; omega) (Ev.ifp ?_ (Ev.ifp ?_ ?_))))))))))
      · rw [show (⟨#[32, 10]⟩ : ByteArray) = B [32, 10] from rfl, B_append, B_size]; simp; omega
      · rw [show (⟨#[32, 10]⟩ : ByteArray) = B [32, 10] from rfl, show (⟨#[61]⟩ : ByteArray) = B [61] from rfl, B_append, B_append, B_size, B_size]; simp; omega
      · rw [show (⟨#[32, 10]⟩ : ByteArray) = B [32, 10] from rfl, show (⟨#[61]⟩ : ByteArray) = B [61] from rfl, B_append, B_append, B_append]
        refine Ev.bindc (dec_f _ (by simp; omega)) (Ev.ifp ?_ (Ev.bind live_ev (Ev.pure _)))
        rw [B_list, B_list]
        have e : ([32, 10] ++ encB l ++ [61] ++ m : List UInt8) = 32 :: 10 :: (encB l ++ 61 :: m) := by simp
        rw [e, decB_congr ((core_cons_junk 32 _ (by decide +kernel)).trans (core_cons_junk 10 _ (by decide +kernel))), dec_enc_behind]
    · rw [show (!decide (m.length ≤ 5000)) = true from by simp [h']]
      exact hlive
  · exact Ev.ifn (by simpa using h) hlive
end Go.Proofs.Ytpoifmcjahjphaa.Pure
