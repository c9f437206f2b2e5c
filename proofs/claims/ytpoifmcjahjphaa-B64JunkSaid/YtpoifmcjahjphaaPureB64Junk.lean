/- B64Junk: bytes that are no letters, nor the sign of the end, change nothing, wherever they stand: for every input, no condition. -/
import Derived.Test.YtpoifmcjahjphaaPureB64
import Derived.Test.YtpoifmcjahjphaaPrx4
set_option linter.unusedVariables false
namespace Go.Proofs.Ytpoifmcjahjphaa.Pure
open Go Go.RowKit Go.Proofs.Ytpoifmcjahjphaa.Pr Go.Proofs.YtpoifmcjahjphaaW.PrintWords Go.Proofs.YtpoifmcjahjphaaW.PrintLast

def isLet (c : UInt8) : Bool := c == 61 || c == 43 || c == 47 || (48 ≤ c.toNat && c.toNat ≤ 57) || (97 ≤ c.toNat && c.toNat ≤ 122) || (65 ≤ c.toNat && c.toNat ≤ 90)
theorem junk_of : ∀ c : UInt8, isLet c = false → junk c = true := Pure.u8_all (by decide +kernel)
theorem isLet_int : ∀ c : UInt8, isLet c = (decide ((c.toNat : Int) = 61) || decide ((c.toNat : Int) = 43) || decide ((c.toNat : Int) = 47) || (decide ((c.toNat : Int) ≥ 48) && decide ((c.toNat : Int) ≤ 57)) || (decide ((c.toNat : Int) ≥ 97) && decide ((c.toNat : Int) ≤ 122)) || (decide ((c.toNat : Int) ≥ 65) && decide ((c.toNat : Int) ≤ 90))) := Pure.u8_all (by decide +kernel)
theorem junk_j1t (s : ByteArray) (at_ c : Int) : Ev (fun k => muslinlaw01_B64Junk.j1 k s at_ c true) true := Ev.succ (by
  simp only [muslinlaw01_B64Junk.j1]
  exact Ev.ifp trivial (Ev.bind live_ev (Ev.pure _)))
theorem junk_j1f (l : List UInt8) (at_ : Int) (c : UInt8) (hl : l.length ≤ 2000) (h0 : 0 ≤ at_) (h1 : at_ ≤ 9223372036854775807) (hc : isLet c = false) : Ev (fun k => muslinlaw01_B64Junk.j1 k (B l) at_ (c.toNat : Int) false) true := Ev.succ (by
  simp only [muslinlaw01_B64Junk.j1]
  have e1 := encB_len l
  refine Ev.ifn (by simp) (Ev.bindc (enc_f l (by omega)) ?_)
  have ew : wrap64 (((B (encB l)).size : Int) + 1) = ((encB l).length : Int) + 1 := by rw [B_size, w64 (by omega) (by omega)]
  obtain ⟨q, hq⟩ : ∃ q : Nat, Int.tmod at_ (((encB l).length : Int) + 1) = (q : Int) := ⟨(Int.tmod at_ (((encB l).length : Int) + 1)).toNat, by rw [Int.tmod_eq_emod_of_nonneg h0]; have := Int.emod_nonneg at_ (show (((encB l).length : Int) + 1) ≠ 0 by omega); omega⟩
  have hq2 : q ≤ (encB l).length := by
    have : Int.tmod at_ (((encB l).length : Int) + 1) < ((encB l).length : Int) + 1 := by rw [Int.tmod_eq_emod_of_nonneg h0]; exact Int.emod_lt_of_pos _ (by omega)
    omega
  rw [ew, hq, Int.toNat_natCast]
  have es : strOfNums [(c.toNat : Int)] = B [c] := by unfold strOfNums B; simp
  refine Ev.ifn (by omega) (Ev.ifp (by omega) (Ev.ifp (by rw [B_size]; omega) ?_))
  simp only [Option.bind_some]
  rw [es, B_upto, B_size (encB l), B_from]
  refine Ev.ifp (by rw [B_size, B_size]; simp; omega) (Ev.ifp (by rw [B_append, B_size, B_size]; simp; omega) ?_)
  rw [B_append, B_append]
  refine Ev.bindc (dec_f _ (by simp; omega)) (Ev.ifp ?_ (Ev.bind live_ev (Ev.pure _)))
  rw [B_list, B_list]
  have e : (encB l).take q ++ [c] ++ (encB l).drop q = (encB l).take q ++ c :: (encB l).drop q := by simp
  rw [e, decB_congr (core_junk _ _ c (junk_of c hc)), List.take_append_drop, dec_enc])
theorem junk_j0t (s : ByteArray) (at_ c : Int) : Ev (fun k => muslinlaw01_B64Junk.j0 k s at_ c true) true := Ev.succ (by
  simp only [muslinlaw01_B64Junk.j0]
  exact Ev.ifp trivial (Ev.bind live_ev (Ev.pure _)))
theorem Ev.iff_ {α : Type} {f g : Nat → Option α} {v : α} {p : Prop} [Decidable p] (h : p → Ev f v) (h2 : ¬ p → Ev g v) : Ev (fun k => if p then f k else g k) v := by
  by_cases hp : p
  · exact Ev.ifp hp (h hp)
  · exact Ev.ifn hp (h2 hp)
theorem B64Junk : muslinlaw01_B64Junk.Pure := by
  intro s at_ c hs hat hc
  obtain ⟨l, rfl⟩ : ∃ l, s = B l := ⟨_, B_of s⟩
  rw [B_size] at hs
  have hat' := wf_i64 hat
  have hc' : 0 ≤ c ∧ c ≤ 255 := by simpa [Lit.wf, IntKind.min, IntKind.max, IntKind.signed, IntKind.bits] using hc
  obtain ⟨b, rfl⟩ : ∃ b : UInt8, c = (b.toNat : Int) := ⟨UInt8.ofNat c.toNat, by rw [UInt8.toNat_ofNat']; omega⟩
  refine Ev.ex ?_
  unfold muslinlaw01_B64Junk.f
  refine Ev.iff_ (fun _ => junk_j0t _ _ _) (fun h1 => ?_)
  rw [B_size] at h1
  by_cases h2 : at_ < 0
  · rw [decide_eq_true h2]; exact junk_j0t _ _ _
  · rw [decide_eq_false h2]
    have key : ∀ v : Bool, v = isLet b → Ev (fun k => muslinlaw01_B64Junk.j1 k (B l) at_ (b.toNat : Int) v) true := by
      intro v hv
      cases v with
      | true => exact junk_j1t _ _ _
      | false => exact junk_j1f l at_ b (by omega) (by omega) hat'.2 hv.symm
    refine Ev.succ ?_
    simp only [muslinlaw01_B64Junk.j0]
    have hI := isLet_int b
    refine Ev.ifn (by simp) ?_
    refine Ev.iff_ (fun h3 => junk_j1t _ _ _) (fun h3 => Ev.iff_ (fun h4 => junk_j1t _ _ _) (fun h4 => Ev.iff_ (fun h5 => junk_j1t _ _ _) (fun h5 => ?_)))
    rw [decide_eq_false h3, decide_eq_false h4, decide_eq_false h5] at hI
    refine Ev.iff_ (fun h6 => Ev.iff_ (fun h7 => junk_j1t _ _ _) (fun h7 => Ev.iff_ (fun h8 => Ev.iff_ (fun h9 => junk_j1t _ _ _) (fun h9 => Ev.iff_ (fun h10 => ?_) (fun h10 => ?_))) (fun h8 => Ev.iff_ (fun h10 => ?_) (fun h10 => ?_)))) (fun h6 => Ev.iff_ (fun h8 => Ev.iff_ (fun h9 => junk_j1t _ _ _) (fun h9 => Ev.iff_ (fun h10 => ?_) (fun h10 => ?_))) (fun h8 => Ev.iff_ (fun h10 => ?_) (fun h10 => ?_)))
    all_goals
      refine key _ ?_
      rw [hI]
      simp only [Bool.false_or]
      simp [*]
      try omega
end Go.Proofs.Ytpoifmcjahjphaa.Pure
