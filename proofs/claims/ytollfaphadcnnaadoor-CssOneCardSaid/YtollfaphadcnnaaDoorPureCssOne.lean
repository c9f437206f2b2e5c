/- CssOne: a declaration that is safe, alone, with white around, is clean as it is told; and as the last one of its name behind any other of it. -/
import Derived.Test.YtollfaphadcnnaaDoorPureMath
import Derived.Test.YtollfaphadcnnaaDoorPureLive
import Derived.Test.YtollfaphadcnnaaDoorPrx11
set_option linter.unusedVariables false
set_option linter.unusedSimpArgs false
set_option linter.unusedSectionVars false
namespace Go.Proofs.YtollfaphadcnnaaDoor.Pure
open Go Go.RowKit Go.Proofs.YtollfaphadcnnaaDoor.Pr Go.Proofs.YtollfaphadcnnaaDoorW.PrintWords Go.Proofs.YtollfaphadcnnaaDoorW.PrintLast Plain Go.Proofs.YtollfaphadcnnaaDoor
def wantL (L v : List UInt8) : List UInt8 := L ++ 58 :: 32 :: v
theorem ents_one {x : S29} (h : Ent x) (l : List UInt8) (hl : cutV l = [x]) : cleanV l = B (wantL x.f0.data.toList x.f1.data.toList) := by
  rw [clean_ents]
  unfold entsOf
  rw [hl, keepL_id [x] (fun y hy => by rw [List.mem_singleton.1 hy]; exact h), lastE_id [x] ⟨rfl, trivial⟩]
  unfold joinE wantL
  rw [List.map_cons, List.map_nil, Lib.join_one]
theorem nm_plain {n : ByteArray} (hn : n ∈ nmL) : n.data.toList.all noOpen = true ∧ (59 : UInt8) ∉ n.data.toList := by
  have h := (nm_facts hn).2
  exact ⟨List.all_eq_true.2 (fun c hc => (h c hc).1), fun hc => (h 59 hc).2.1 rfl⟩
theorem ok_plain {v : List UInt8} (h : ∀ c ∈ v, okC c = true) : v.all noOpen = true ∧ (59 : UInt8) ∉ v :=
  ⟨List.all_eq_true.2 (fun c hc => (ok_facts (h c hc)).1), fun hc => (ok_facts (h 59 hc)).2.1 rfl⟩
theorem all_cat {a b : List UInt8} (h1 : a.all noOpen = true) (h2 : b.all noOpen = true) : (a ++ b).all noOpen = true := by rw [List.all_append, h1, h2]; rfl
section
variable (L v : List UInt8) (hx : Ent ⟨B L, B v⟩)
include hx
theorem one_first : cleanV (L ++ 58 :: v) = B (wantL L v) := by
  obtain ⟨p1, p2⟩ := nm_plain hx.nm
  obtain ⟨q1, q2⟩ := ok_plain hx.all
  have hno : (L ++ 58 :: v).all noOpen = true := all_cat p1 (by rw [List.all_cons, show v.all noOpen = true from q1]; rfl)
  have h9 : (59 : UInt8) ∉ L ++ 58 :: v := by
    intro h
    rcases List.mem_append.1 h with h | h
    · exact p2 h
    · rcases List.mem_cons.1 h with h | h
      · exact absurd h (by decide)
      · exact q2 h
  refine ents_one hx _ ?_
  rw [cutV_one _ hno h9]
  have := declOf_pair hx.nm v
  rw [B_data] at this
  have hne : v ≠ [] := hx.ne
  rw [this, show Lib.trimS v wh = v from hx.tr, if_pos hne]
theorem one_second : cleanV (32 :: 10 :: (L ++ (9 :: 58 :: 32 :: (v ++ 32 :: 59 :: 59 :: [])))) = B (wantL L v) := by
  obtain ⟨p1, p2⟩ := nm_plain hx.nm
  obtain ⟨q1, q2⟩ := ok_plain hx.all
  obtain ⟨h0, hf⟩ := nm_facts hx.nm
  rw [B_data] at h0 hf
  have hno : (L ++ 9 :: 58 :: 32 :: (v ++ [32])).all noOpen = true := by
    refine all_cat p1 ?_
    rw [List.all_cons, List.all_cons, List.all_cons, List.all_append, show v.all noOpen = true from q1]; rfl
  have h9 : (59 : UInt8) ∉ L ++ 9 :: 58 :: 32 :: (v ++ [32]) := by
    intro h
    rcases List.mem_append.1 h with h | h
    · exact p2 h
    · simp only [List.mem_cons, List.mem_append, List.not_mem_nil, or_false] at h
      rcases h with h | h | h | h | h
      · exact absurd h (by decide)
      · exact absurd h (by decide)
      · exact absurd h (by decide)
      · exact q2 h
      · exact absurd h (by decide)
  have e : L ++ (9 :: 58 :: 32 :: (v ++ 32 :: 59 :: 59 :: [])) = (L ++ 9 :: 58 :: 32 :: (v ++ [32])) ++ 59 :: ([] ++ 59 :: []) := by simp
  refine ents_one hx _ ?_
  have hnil : cutV [] = [] := by rw [cutV_last (by simp)]; rfl
  rw [cutV_white 32 _ (by decide), cutV_white 10 _ (by decide), e, cutV_semi _ _ hno, cutV_semi [] [] rfl, hnil, cutV_one _ hno h9]
  have hc : Lib.cut (L ++ 9 :: 58 :: 32 :: (v ++ [32])) [58] = (L ++ [9], 32 :: (v ++ [32]), true) := by
    rw [show L ++ 9 :: 58 :: 32 :: (v ++ [32]) = (L ++ [9]) ++ 58 :: 32 :: (v ++ [32]) by simp, brk1_cut]
    refine brk1_hit 58 _ _ (fun hm => ?_)
    rcases List.mem_append.1 hm with hm | hm
    · exact (hf 58 hm).2.2.1 rfl
    · exact absurd (List.mem_singleton.1 hm) (by decide)
  have e1 : nmOf (L ++ 9 :: 58 :: 32 :: (v ++ [32])) = L := by
    unfold nmOf
    rw [hc]
    show small (Lib.trimS (L ++ [9]) wh) = L
    rw [trimS_whiteR _ 9 (by decide), trimS_none _ (fun c hm => (hf c hm).2.2.2.1), small_id _ (fun c hm => (hf c hm).2.2.2.2)]
  have e2 : vlOf (L ++ 9 :: 58 :: 32 :: (v ++ [32])) = v := by
    unfold vlOf
    rw [hc]
    show Lib.trimS (32 :: (v ++ [32])) wh = v
    rw [trimS_white 32 _ (by decide), trimS_whiteR _ 32 (by decide)]
    exact hx.tr
  unfold declOf
  rw [e1, e2, if_pos ⟨h0, hx.ne⟩]
  rfl
theorem one_third (o : List UInt8) (ho : ∀ c ∈ o, okC c = true) : cleanV (L ++ 58 :: (o ++ 59 :: wantL L v)) = B (wantL L v) := by
  obtain ⟨p1, p2⟩ := nm_plain hx.nm
  obtain ⟨q1, q2⟩ := ok_plain ho
  have hno : (L ++ 58 :: o).all noOpen = true := all_cat p1 (by rw [List.all_cons, q1]; rfl)
  have h9 : (59 : UInt8) ∉ L ++ 58 :: o := by
    intro h
    rcases List.mem_append.1 h with h | h
    · exact p2 h
    · rcases List.mem_cons.1 h with h | h
      · exact absurd h (by decide)
      · exact q2 h
  have e : L ++ 58 :: (o ++ 59 :: wantL L v) = (L ++ 58 :: o) ++ 59 :: wantL L v := by simp
  have hw : cutV (wantL L v) = [⟨B L, B v⟩] := by
    have hp := (line_plain hx)
    have := cutV_one _ hp.1 hp.2
    rw [hx.decl] at this
    exact this
  rw [clean_ents]
  unfold entsOf
  rw [e, cutV_semi _ _ hno, cutV_one _ hno h9, hw]
  have hd := declOf_pair hx.nm o
  rw [B_data] at hd
  rw [hd]
  have hfin : lastE (keepL [(⟨B L, B v⟩ : S29)]) = [⟨B L, B v⟩] := by
    rw [keepL_id [_] (fun y hy => by rw [List.mem_singleton.1 hy]; exact hx), lastE_id [_] ⟨rfl, trivial⟩]
  have hj : joinE [(⟨B L, B v⟩ : S29)] = wantL L v := by
    unfold joinE wantL
    rw [List.map_cons, List.map_nil, Lib.join_one]; rfl
  split
  · have hs : safeB (B L) (B v) = true := hx.safe
    cases hq : safeB (B L) (B (Lib.trimS o wh)) with
    | true =>
      have : lastE (keepL ([(⟨B L, B (Lib.trimS o wh)⟩ : S29)] ++ [⟨B L, B v⟩])) = [⟨B L, B v⟩] := by
        unfold keepL
        simp [hq, hs, lastE]
      rw [this, hj]
    | false =>
      have : lastE (keepL ([(⟨B L, B (Lib.trimS o wh)⟩ : S29)] ++ [⟨B L, B v⟩])) = [⟨B L, B v⟩] := by
        unfold keepL
        simp [hq, hs, lastE]
      rw [this, hj]
  · rw [List.nil_append, hfin, hj]
end
theorem one_j0_true (a b c : ByteArray) : Ev (fun k => muslinlaw17_CssOne.j0 k a b c true) true := by
  refine .succ ?_
  simp only [muslinlaw17_CssOne.j0]
  exact .ifp (by first | rfl | trivial) (.bind live_ev (.pure _))
theorem one_j1_true (a b c : ByteArray) : Ev (fun k => muslinlaw17_CssOne.j1 k a b c true) true := by
  refine .succ ?_
  simp only [muslinlaw17_CssOne.j1]
  exact .ifp (by first | rfl | trivial) (.bind live_ev (.pure _))
theorem one_j1 (L v o : List UInt8) (hL : L.length ≤ 3000) (hv : v.length ≤ 3000) (ho : o.length ≤ 3000) (hx : Ent ⟨B L, B v⟩) : Ev (fun k => muslinlaw17_CssOne.j1 k (B L) (B v) (B o) false) true := by
  have b1 : B L ++ (⟨#[58, 32]⟩ : ByteArray) ++ B v = B (wantL L v) := by
    rw [show (⟨#[58, 32]⟩ : ByteArray) = B [58, 32] from rfl, B_append, B_append]; simp [wantL]
  have b2 : B L ++ (⟨#[58]⟩ : ByteArray) ++ B v = B (L ++ 58 :: v) := by
    rw [show (⟨#[58]⟩ : ByteArray) = B [58] from rfl, B_append, B_append]; simp
  have b3 : (⟨#[32, 10]⟩ : ByteArray) ++ B L ++ (⟨#[9, 58, 32]⟩ : ByteArray) ++ B v ++ (⟨#[32, 59, 59]⟩ : ByteArray) = B (32 :: 10 :: (L ++ (9 :: 58 :: 32 :: (v ++ 32 :: 59 :: 59 :: [])))) := by
    rw [show (⟨#[32, 10]⟩ : ByteArray) = B [32, 10] from rfl, show (⟨#[9, 58, 32]⟩ : ByteArray) = B [9, 58, 32] from rfl, show (⟨#[32, 59, 59]⟩ : ByteArray) = B [32, 59, 59] from rfl, B_append, B_append, B_append, B_append]; simp
  have b4 : B L ++ (⟨#[58]⟩ : ByteArray) ++ B o ++ (⟨#[59]⟩ : ByteArray) ++ B (wantL L v) = B (L ++ 58 :: (o ++ 59 :: wantL L v)) := by
    rw [show (⟨#[58]⟩ : ByteArray) = B [58] from rfl, show (⟨#[59]⟩ : ByteArray) = B [59] from rfl, B_append, B_append, B_append, B_append]; simp
  have s1 : (⟨#[58, 32]⟩ : ByteArray).size = 2 := rfl
  have s2 : (⟨#[58]⟩ : ByteArray).size = 1 := rfl
  have s3 : (⟨#[32, 10]⟩ : ByteArray).size = 2 := rfl
  have s4 : (⟨#[9, 58, 32]⟩ : ByteArray).size = 3 := rfl
  have s5 : (⟨#[59]⟩ : ByteArray).size = 1 := rfl
  have wl : (wantL L v).length = L.length + v.length + 2 := by simp [wantL]; omega
  refine .succ ?_
  simp only [muslinlaw17_CssOne.j1]
  rw [b1, b2, b3]
  refine .ifn (by simp) (.ifp (by rw [B_size]; omega) (.ifp (by rw [ByteArray.size_append, s1, B_size, B_size]; omega) (.ifp (by rw [B_size]; omega) (.ifp (by rw [ByteArray.size_append, s2, B_size, B_size]; omega) (.bindc (cleanEq _ (by simp; omega)) ?_)))))
  rw [one_first L v hx]
  refine .ifp rfl (.ifp (by rw [B_size]; omega) (.ifp (by rw [ByteArray.size_append, s3, B_size]; omega) (.ifp (by rw [ByteArray.size_append, ByteArray.size_append, s3, s4, B_size, B_size]; omega) (.ifp (by rw [ByteArray.size_append, ByteArray.size_append, ByteArray.size_append, s3, s4, B_size, B_size]; omega) (.bindc (cleanEq _ (by simp; omega)) ?_)))))
  rw [one_second L v hx]
  have hq : ((B (wantL L v)).toList != (B (wantL L v)).toList) = false := by simp
  rw [hq]
  refine .succ ?_
  simp only [muslinlaw17_CssOne.j2]
  rw [b4]
  refine .ifn (by simp) (.bindc (safeEq _ _) (ev_ite (fun hs => ?_) (fun _ => .bind live_ev (.pure _))))
  rw [safeB_eq, Bool.and_eq_true] at hs
  have hoo : ∀ c ∈ o, okC c = true := by
    have := hs.2
    unfold okV at this
    rw [Bool.and_eq_true, Bool.and_eq_true, List.all_eq_true] at this
    exact this.2.2
  refine .ifp (by rw [B_size]; omega) (.ifp (by rw [ByteArray.size_append, s2, B_size, B_size]; omega) (.ifp (by rw [ByteArray.size_append, ByteArray.size_append, s2, B_size, B_size]; omega) (.ifp (by rw [ByteArray.size_append, ByteArray.size_append, ByteArray.size_append, s2, s5, B_size, B_size, B_size, wl]; omega) (.bindc (cleanEq _ (by simp [wl]; omega)) ?_))))
  rw [one_third L v hx o hoo]
  exact .ifp rfl (.bind live_ev (.pure _))
theorem CssOne : muslinlaw17_CssOne.Pure := by
  intro a0 a1 a2 _ _ _
  refine Ev.ex ?_
  unfold muslinlaw17_CssOne.f muslinlaw17_short.f
  rw [B_of a0, B_of a1, B_of a2]
  generalize a0.data.toList = L
  generalize a1.data.toList = v
  generalize a2.data.toList = o
  refine .bindc rfl ?_
  by_cases h1 : L.length ≤ 3000
  · refine .ifp (by rw [B_size]; exact decide_eq_true (by omega)) (.bindc rfl ?_)
    by_cases h2 : v.length ≤ 3000
    · refine .ifp (by rw [B_size]; exact decide_eq_true (by omega)) (.bindc rfl ?_)
      by_cases h3 : o.length ≤ 3000
      · refine .ifp (by rw [B_size]; exact decide_eq_true (by omega)) (.bindc (safeEq _ _) ?_)
        cases hs : safeB (B L) (B v) with
        | false => exact one_j0_true _ _ _
        | true =>
          rw [safeB_eq, Bool.and_eq_true] at hs
          obtain ⟨hn, hok⟩ := hs
          have hok2 := hok
          unfold okV at hok2
          rw [Bool.and_eq_true, Bool.and_eq_true, List.all_eq_true, B_list] at hok2
          obtain ⟨hne, _, hall⟩ := hok2
          have hne' : v ≠ [] := by simpa using hne
          have hpos : 0 < v.length := List.length_pos_iff.2 hne'
          have hall' : ∀ c ∈ v, okC c = true := hall
          show Ev (fun k => muslinlaw17_CssOne.j0 k (B L) (B v) (B o) false) true
          refine .succ ?_
          simp only [muslinlaw17_CssOne.j0]
          refine .ifn (by simp) (.ifp (by rw [B_size]; omega) (ev_ite (fun _ => one_j1_true _ _ _) (fun hf => ?_)))
          have ew : wrap64 (((B v).size : Int) - 1) = ((v.length - 1 : Nat) : Int) := by rw [B_size, w64 (by omega) (by omega)]; omega
          rw [ew]
          refine .ifp (by omega) (.ifp (by rw [B_size]; omega) ?_)
          rw [B_bt]
          by_cases hl : v.getD (v.length - 1) 0 = 32
          · rw [hl]
            exact one_j1_true _ _ _
          · have e32 : (((v.getD (v.length - 1) 0).toNat : Int) == 32) = false := by
              rw [beq_eq_false_iff_ne]
              exact fun h => hl ((u8_int _ 32).1 h)
            rw [e32]
            refine one_j1 L v o h1 h2 h3 ⟨mem_isNm _ hn, hok, ?_⟩
            rw [B_data]
            refine trimS_id v (fun c r e => ?_) (fun c r e => ?_)
            · cases hw : wh.contains c with
              | false => rfl
              | true =>
                have hc := (ok_facts (hall' c (by rw [e]; simp))).2.2 hw
                exfalso
                apply hf
                rw [e, show bt (B (c :: r)) 0 = (((c :: r).getD 0 0).toNat : Int) from B_bt (c :: r) 0, hc]
                rfl
            · cases hw : wh.contains c with
              | false => rfl
              | true =>
                have hc := (ok_facts (hall' c (by rw [e]; simp))).2.2 hw
                exfalso
                apply hl
                rw [e, hc]
                simp
      · exact .ifn (by rw [B_size]; simp; omega) (one_j0_true _ _ _)
    · exact .ifn (by rw [B_size]; simp; omega) (one_j0_true _ _ _)
  · exact .ifn (by rw [B_size]; simp; omega) (one_j0_true _ _ _)
end Go.Proofs.YtollfaphadcnnaaDoor.Pure
