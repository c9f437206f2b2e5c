/- B64Decodes: the bytes of any text are the reference's: for every input, no condition. -/
import Derived.Test.YtpoifmcjahjphaaPureB64
import Derived.Test.YtpoifmcjahjphaaPrx2
set_option linter.unusedVariables false
set_option linter.unusedSimpArgs false
namespace Go.Proofs.Ytpoifmcjahjphaa.Pure
open Go Go.RowKit Go.Proofs.Ytpoifmcjahjphaa.Pr Go.Proofs.YtpoifmcjahjphaaW.PrintWords Go.Proofs.YtpoifmcjahjphaaW.PrintLast Go.Proofs.YtpoifmcjahjphaaW.PrintMore

def placeI (c : UInt8) : Int := match placeO c with
  | some p => p
  | none => -1
theorem place_70 : ∀ c : UInt8, muslinref01_place.f 70 (c.toNat : Int) = some (placeI c) := Pure.u8_all (by decide +kernel)
theorem place_ev (c : UInt8) : Ev (fun k => muslinref01_place.f k (c.toNat : Int)) (placeI c) := ⟨70, fun k hk => at_rounds (fun k => muslinref01_place.mono _ k) hk (place_70 c)⟩
def ints (l : List Nat) : List Int := l.map fun n : Nat => (n : Int)
theorem ints_snoc (l : List Nat) (n : Nat) : ints l ++ [(n : Int)] = ints (l ++ [n]) := by simp [ints]
theorem ints_len (l : List Nat) : (ints l).length = l.length := by simp [ints]
theorem strOf_ints (l : List Nat) : strOfNums (ints l) = B (l.map UInt8.ofNat) := by
  unfold strOfNums ints B
  rw [List.map_map]
  congr 2
theorem decStep_no (o : List Nat) (A p : Nat) : decStep (o, A, 0) p = (o, nextAll 6 A p, 6) := by
  simp only [decStep, Nat.zero_add, Nat.reduceAdd, Nat.reduceMod]
  rw [sends8_6, List.append_nil]
theorem decStep_2 (o : List Nat) (A p : Nat) : decStep (o, A, 2) p = (o ++ [nextAll 6 A p / 2 ^ 0 % 256], nextAll 6 A p, 0) := by
  simp only [decStep, Nat.reduceAdd, Nat.reduceMod]
  rw [sends8_8]
  simp
theorem decStep_4 (o : List Nat) (A p : Nat) : decStep (o, A, 4) p = (o ++ [nextAll 6 A p / 2 ^ 2 % 256], nextAll 6 A p, 2) := by
  simp only [decStep, Nat.reduceAdd, Nat.reduceMod]
  rw [sends8_10]
theorem decStep_6 (o : List Nat) (A p : Nat) : decStep (o, A, 6) p = (o ++ [nextAll 6 A p / 2 ^ 4 % 256], nextAll 6 A p, 4) := by
  simp only [decStep, Nat.reduceAdd, Nat.reduceMod]
  rw [sends8_12]
theorem dec_l0 (l : List UInt8) (hl : l.length ≤ 10000) : ∀ (d i : Nat) (o : List Nat) (A b : Nat), l.length - i = d → i ≤ l.length → o.length ≤ i → A < 65536 → (b = 0 ∨ b = 2 ∨ b = 4 ∨ b = 6) →
    Ev (fun k => muslinref01_Decode.l0 k (B l) (ints o) (A : Int) (b : Int) (i : Int)) (B (((core (l.drop i)).foldl decStep (o, A, b)).1.map UInt8.ofNat)) := by
  intro d
  induction d with
  | zero =>
    intro i o A b hd hi ho hA hb
    refine Ev.succ ?_
    simp only [muslinref01_Decode.l0]
    refine Ev.ifn (by rw [B_size]; omega) (Ev.succ ?_)
    simp only [muslinref01_Decode.j1]
    refine Ev.ifn (by simp) (Ev.of ?_)
    rw [strOf_ints, List.drop_eq_nil_of_le (by omega)]
    rfl
  | succ d ih =>
    intro i o A b hd hi ho hA hb
    have hlt : i < l.length := by omega
    refine Ev.succ ?_
    simp only [muslinref01_Decode.l0]
    refine Ev.ifp (by rw [B_size]; omega) (Ev.ifp (by omega) (Ev.succ ?_))
    simp only [muslinref01_Decode.j1]
    rw [B_bt, drop_cons_get l i hlt]
    generalize hc : l.getD i 0 = c
    by_cases h61 : c = 61
    · subst h61
      refine Ev.ifn (by decide) (Ev.of ?_)
      rw [strOf_ints]
      rfl
    · refine Ev.ifp (by rw [bne_iff_ne]; intro h; exact h61 ((u8_int c 61).1 h)) (Ev.ifp (by omega) (Ev.ifp (by rw [B_size]; omega) (Ev.bind (place_ev c) ?_)))
      have ei : wrap64 ((i : Int) + 1) = ((i + 1 : Nat) : Int) := by rw [w64 (by omega) (by omega)]; omega
      have hah : ahead (c :: l.drop (i + 1)) = c :: ahead (l.drop (i + 1)) := by
        unfold ahead; rw [List.takeWhile_cons, if_pos (by simp [h61])]
      cases hp : placeO c with
      | none =>
        have e1 : placeI c = -1 := by unfold placeI; rw [hp]
        have e2 : core (c :: l.drop (i + 1)) = core (l.drop (i + 1)) := by unfold core; rw [hah, List.filterMap_cons, hp]
        rw [e1, e2, ei]
        exact Ev.ifp (by decide) (ih (i + 1) o A b (by omega) (by omega) (by omega) hA hb)
      | some p =>
        have h64 := placeO_lt c p hp
        have e1 : placeI c = (p : Int) := by unfold placeI; rw [hp]
        have e2 : core (c :: l.drop (i + 1)) = p :: core (l.drop (i + 1)) := by unfold core; rw [hah, List.filterMap_cons, hp]
        have en : Int.tmod (wrap64 (wrap64 ((A : Int) * 64) + (p : Int))) 65536 = ((nextAll 6 A p : Nat) : Int) := by
          rw [w64 (i := (A : Int) * 64) (by omega) (by omega), w64 (by omega) (by omega), Int.tmod_eq_emod_of_nonneg (by omega), nextAll6]; omega
        have hA2 : nextAll 6 A p < 65536 := Nat.mod_lt _ (by decide)
        have eb6 : wrap64 ((b : Int) + 6) = ((b + 6 : Nat) : Int) := by rw [w64 (by omega) (by omega)]; omega
        rw [e1, e2, ei, en, eb6, List.foldl_cons]
        generalize hA' : nextAll 6 A p = A' at *
        refine Ev.ifn (by omega) ?_
        have hsend : ∀ (s : Nat), s ≤ 4 → b + 6 = s + 8 → decStep (o, A, b) p = (o ++ [A' / 2 ^ s % 256], A', s) → Ev (fun k => if ((b + 6 : Nat) : Int) ≥ 8 then (if 0 ≤ IntKind.u64.wrap (wrap64 (((b + 6 : Nat) : Int) - 8)) then (if (ints o).length < 140737488355328 then muslinref01_Decode.l0 k (B l) (ints o ++ [shr .i64 (A' : Int) (IntKind.u64.wrap (wrap64 (((b + 6 : Nat) : Int) - 8))) % 256]) (A' : Int) (wrap64 (((b + 6 : Nat) : Int) - 8)) ((i + 1 : Nat) : Int) else none) else none) else muslinref01_Decode.l0 k (B l) (ints o) (A' : Int) ((b + 6 : Nat) : Int) ((i + 1 : Nat) : Int)) (B (((core (l.drop (i + 1))).foldl decStep (decStep (o, A, b) p)).1.map UInt8.ofNat)) := by
          intro s hs hbs hst
          have e8 : wrap64 (((b + 6 : Nat) : Int) - 8) = (s : Int) := by rw [w64 (by omega) (by omega)]; omega
          have eu : IntKind.u64.wrap (s : Int) = (s : Int) := by
            show (s : Int) % 18446744073709551616 = _
            omega
          rw [e8, eu, hst]
          have esh : shr .i64 (A' : Int) (s : Int) % 256 = ((A' / 2 ^ s % 256 : Nat) : Int) := by
            unfold shr
            rw [Int.toNat_natCast, Nat.min_eq_left (show s ≤ IntKind.i64.bits by show _ ≤ 64; omega), Int.natCast_emod, Int.natCast_ediv, Int.natCast_pow]; rfl
          rw [esh, ints_snoc]
          exact Ev.ifp (by omega) (Ev.ifp (by omega) (Ev.ifp (by rw [ints_len]; omega) (ih (i + 1) _ A' s (by omega) (by omega) (by rw [List.length_append, List.length_singleton]; omega) hA2 (by omega))))
        rcases hb with rfl | rfl | rfl | rfl
        · refine Ev.ifn (by decide) ?_
          rw [show decStep (o, A, 0) p = (o, A', 6) from by rw [decStep_no, hA']]
          exact ih (i + 1) o A' 6 (by omega) (by omega) (by omega) hA2 (by omega)
        · exact hsend 0 (by decide) rfl (by rw [decStep_2, hA'])
        · exact hsend 2 (by decide) rfl (by rw [decStep_4, hA'])
        · exact hsend 4 (by decide) rfl (by rw [decStep_6, hA'])
theorem dec_ref (l : List UInt8) (hl : l.length ≤ 10000) : Ev (fun k => muslinref01_Decode.f k (B l)) (B (decB l)) := by
  unfold muslinref01_Decode.f
  have h := dec_l0 l hl l.length 0 [] 0 0 rfl (by omega) (by simp) (by decide) (.inl rfl)
  exact h
theorem B64Decodes : muslinlaw01_B64Decodes.Pure := by
  intro s hs
  obtain ⟨l, rfl⟩ : ∃ l, s = B l := ⟨_, B_of s⟩
  rw [B_size] at hs
  refine Ev.ex ?_
  unfold muslinlaw01_B64Decodes.f
  refine Ev.bindc (short_f l) ?_
  by_cases h : l.length ≤ 5000
  · exact Ev.ifp (decide_eq_true h) (Ev.bindc (dec_f l (by omega)) (Ev.bind (dec_ref l (by omega)) (Ev.ifp rfl (Ev.bind live_ev (Ev.pure _)))))
  · exact Ev.ifn (by simpa using h) (Ev.bind live_ev (Ev.pure _))
end Go.Proofs.Ytpoifmcjahjphaa.Pure
