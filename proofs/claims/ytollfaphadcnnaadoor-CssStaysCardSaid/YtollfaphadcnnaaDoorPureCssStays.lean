/- CssStays: what is clean stays; it has none of the signs by which something is loaded. -/
import Derived.Test.YtollfaphadcnnaaDoorPureMath
import Derived.Test.YtollfaphadcnnaaDoorPureLive
import Derived.Test.YtollfaphadcnnaaDoorPrx8
set_option linter.unusedVariables false
set_option linter.unusedSimpArgs false
namespace Go.Proofs.YtollfaphadcnnaaDoor.Pure
open Go Go.RowKit Go.Proofs.YtollfaphadcnnaaDoor.Pr Go.Proofs.YtollfaphadcnnaaDoorW.PrintWords Go.Proofs.YtollfaphadcnnaaDoorW.PrintLast Plain Go.Proofs.YtollfaphadcnnaaDoor
def goodC (c : UInt8) : Bool := ![40, 41, 34, 39, 92, 64, 60, 62, 47, 38, 10].contains c
theorem good_ok : ∀ c : UInt8, (!okC c || goodC c) = true := u8_all (by decide +kernel)
theorem good_nm : ∀ c : UInt8, (!nameC c || goodC c) = true := u8_all (by decide +kernel)
theorem good_line {x : S29} (h : Ent x) : ∀ c ∈ x.f0.data.toList ++ 58 :: 32 :: x.f1.data.toList, goodC c = true := by
  intro c hc
  have h1 := names_ok x.f0 h.nm
  rw [Bool.and_eq_true, List.all_eq_true] at h1
  rcases List.mem_append.1 hc with hc | hc
  · have h2 := good_nm c
    rw [h1.1 c hc] at h2
    simpa using h2
  · rcases List.mem_cons.1 hc with rfl | hc
    · decide
    · rcases List.mem_cons.1 hc with rfl | hc
      · decide
      · have h2 := good_ok c
        rw [h.all c hc] at h2
        simpa using h2
theorem good_join : ∀ E : List S29, (∀ x ∈ E, Ent x) → ∀ c ∈ joinE E, goodC c = true
  | [], _ => by
    intro c hc
    rw [show joinE [] = [] from by simp [joinE, Lib.join, List.intercalate]] at hc
    cases hc
  | [x], h => by
    have e : joinE [x] = x.f0.data.toList ++ 58 :: 32 :: x.f1.data.toList := by unfold joinE; rw [List.map_cons, List.map_nil, Lib.join_one]
    rw [e]
    exact good_line (h x (by simp))
  | x :: y :: r, h => by
    have ih := good_join (y :: r) (fun z hz => h z (by simp [hz]))
    have e : joinE (x :: y :: r) = (x.f0.data.toList ++ 58 :: 32 :: x.f1.data.toList) ++ 59 :: 32 :: joinE (y :: r) := by
      unfold joinE
      rw [List.map_cons, List.map_cons, join_two]
      simp
    rw [e]
    intro c hc
    rcases List.mem_append.1 hc with hc | hc
    · exact good_line (h x (by simp)) c hc
    · rcases List.mem_cons.1 hc with rfl | hc
      · decide
      · rcases List.mem_cons.1 hc with rfl | hc
        · decide
        · exact ih c hc
theorem stays_l0 (l : List UInt8) (hl : l.length ≤ 1000000) (hg : ∀ c ∈ l, goodC c = true) (hc : cleanV l = B l) : ∀ (d i : Nat), i + d = l.length → Ev (fun k => muslinlaw17_CssStays.l0 k (B l) (i : Int)) true := by
  intro d
  induction d with
  | zero =>
    intro i hi
    refine .succ ?_
    simp only [muslinlaw17_CssStays.l0]
    refine .ifn (by rw [B_size]; omega) (.bindc (cleanEq l hl) ?_)
    rw [hc]
    exact .ifp rfl (.bind live_ev (.pure _))
  | succ d ih =>
    intro i hi
    have h1 : i < l.length := by omega
    refine .succ ?_
    simp only [muslinlaw17_CssStays.l0]
    have hgc := hg (l.getD i 0) (by rw [List.getD_eq_getElem?_getD, List.getElem?_eq_getElem h1]; exact List.getElem_mem h1)
    refine .ifp (by rw [B_size]; omega) (.ifp (by omega) ?_)
    rw [B_bt, w64 (by omega) (by omega)]
    generalize l.getD i 0 = c at hgc
    have hne : ∀ n : UInt8, [40, 41, 34, 39, 92, 64, 60, 62, 47, 38, 10].contains n = true → ¬ (c.toNat : Int) = (n.toNat : Int) := fun n hn h => by
      rw [(u8_int c n).1 h] at hgc
      unfold goodC at hgc
      rw [hn] at hgc
      cases hgc
    refine .ifn (hne 40 (by decide)) (.ifn (hne 41 (by decide)) (.ifn (hne 34 (by decide)) (.ifn (hne 39 (by decide)) (.ifn (hne 92 (by decide)) (.ifn (hne 64 (by decide)) (.ifn (hne 60 (by decide)) (.ifn (hne 62 (by decide)) (.ifn (hne 47 (by decide)) (.ifn (hne 38 (by decide)) (.ifn (hne 10 (by decide)) ?_))))))))))
    exact ih (i + 1) (by omega)
theorem CssStays : muslinlaw17_CssStays.Pure := by
  intro a0 _
  refine Ev.ex ?_
  unfold muslinlaw17_CssStays.f muslinlaw17_short.f
  rw [B_of a0]
  generalize a0.data.toList = l
  refine .bindc rfl ?_
  by_cases h : l.length ≤ 3000
  · refine .ifp (by rw [B_size]; exact decide_eq_true (by omega)) (.bindc (cleanEq l (by omega)) ?_)
    rw [clean_ents]
    have hlen := clean_len l
    have hc : cleanV (joinE (entsOf l)) = B (joinE (entsOf l)) := by rw [clean_ents, clean_again _ (ents_ent l) (ents_uniq l)]
    exact stays_l0 _ (by omega) (good_join _ (ents_ent l)) hc _ 0 (Nat.zero_add _)
  · exact .ifn (by rw [B_size]; simp; omega) (.bind live_ev (.pure _))
end Go.Proofs.YtollfaphadcnnaaDoor.Pure
