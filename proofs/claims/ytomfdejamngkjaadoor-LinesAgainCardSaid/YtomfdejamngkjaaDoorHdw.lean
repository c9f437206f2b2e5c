/- A message's header: Head, walked. -/
import Derived.Test.YtomfdejamngkjaaDoorHdb
import Derived.Test.YtomfdejamngkjaaDoorItr2
import Derived.Laws.EntriesVeiled
import Derived.Sort.QuietIn
set_option linter.unusedVariables false
set_option linter.unusedSimpArgs false
namespace Go.Proofs.YtomfdejamngkjaaDoor
open Go.RowKit Go.Shelf Plain Pr Range Go.Proofs.YtomfdejamngkjaaDoorW.PrintWords
attribute [local go_sem] Oper.semAt_some
abbrev shutV (h : Nat) : Value := .func (.func 26) #[] #[.pointer (some ⟨h + 1, 0, none⟩), .pointer (some ⟨h, 0, none⟩)]
theorem infoFld : (Tryd.prog.info? 29).map (fun i => (i.zero, i.size, i.bytes)) = some (some (.agg #[.string ⟨#[]⟩, .string ⟨#[]⟩]), 2, 32) := by kernel_rfl
theorem cell_two_new (W : World) (a b : Value) (t : TypeId) : ∀ (j : Nat) u, [a, b][j]? = some u → (W.alloc (.cells #[a, b] t)).cell? ((⟨W.heap.size, 0, none⟩ : Addr).add j) = some u := by
  intro j u hu
  have hj : j < 2 := (List.getElem?_eq_some_iff.1 hu).1
  have hn := World.alloc_heap_new W (.cells #[a, b] t)
  have e : (⟨W.heap.size, 0, none⟩ : Addr).add j = ⟨W.heap.size, j, none⟩ := by
    unfold Addr.add
    split
    · rename_i h; rw [h]
    · simp
  rw [e]
  simp only [World.cell?, hn]
  match j, hj with
  | 0, _ => exact hu
  | 1, _ => exact hu
theorem ext1 (c : UInt8) (t : List UInt8) : ({ data := (c :: t).toArray } : ByteArray).extract 0 1 = ⟨#[c]⟩ := by
  apply ByteArray.ext
  apply Array.ext'
  simp
theorem ws_call (c : UInt8) (W : World) : Calls Tryd.prog 29 #[.string ⟨#[32, 9]⟩, .string ⟨#[c]⟩] W fun e w' => e = .returned (.bool (ws.contains c)) ∧ W = w' := by
  have h : decide (0 ≤ Lib.indexByte [32, 9] c) = ws.contains c := by
    by_cases h1 : c = 32
    · subst h1; decide
    · by_cases h2 : c = 9
      · subst h2; decide
      · have : ws.contains c = false := by simp [ws, h1, h2]
        rw [this]
        simp [Lib.indexByte, h1, h2, Ne.symm h1, Ne.symm h2]
  have := Tryd.strings_Contains_one ⟨#[32, 9]⟩ c W
  rw [← h]
  exact this.mono (fun e w' h => ⟨h.1, h.2.symm⟩)
set_option maxRecDepth 100000 in
set_option maxHeartbeats 4000000 in
theorem head_in (s : ByteArray) (w : World) (hs : s.size ≤ 1000000) :
    CallsIn Fence.wide 6 Tryd.prog 15 #[.string s] w fun e w' => ∃ v, e = .returned (.tuple #[v, .string ⟨(headL s.data.toList).2.toArray⟩]) ∧ w'.ownsRow w.heap.size 29 2 v (headL s.data.toList).1.length (cells29 (headL s.data.toList).1) ∧ Below w.heap.size w w' := by
  refine callsIn_of_wp_marks Tryd.func15 rfl trivial ?_ rfl
  simp only [Tryd.ntmps15, List.size_toArray, List.length_cons, List.length_nil, Nat.reduceAdd, Nat.reduceSub, Array.replicate_succ, Array.replicate_zero, List.push_toArray, List.append_toArray, List.nil_append, List.cons_append]
  have b3 := Boxed.new (((w.alloc (.cells #[.slice none 0 0] 27)).alloc (.cells #[.slice none 0 0] 24)).alloc (.cells #[.string ⟨#[]⟩] 9)) 1 Value.nilFunc
  simp only [World.size_alloc] at b3
  have c3 := b3.cell
  have f3 := b3.frozen
  clear b3
  gi_wp2_with fail
  refine ⟨trivial, (all_in _ (by omega) s _).mono ?_⟩
  rintro e w' ⟨rfl, rfl⟩
  obtain ⟨W0, hW0⟩ : ∃ W0, ((((w.alloc (.cells #[.slice none 0 0] 27)).alloc (.cells #[.slice none 0 0] 24)).alloc (.cells #[.string ⟨#[]⟩] 9)).alloc (.cells #[shutV w.heap.size] 1)).alloc (.cells #[.string s] 9) = W0 := ⟨_, rfl⟩
  have hI0 : HIv w ([], none) [] W0 := by
    subst hW0
    have bl := (((Boxed.new w 27 (.slice none 0 0)).alloc (.cells #[.slice none 0 0] 24)).alloc (.cells #[.string ⟨#[]⟩] 9)).alloc (.cells #[shutV w.heap.size] 1)
    have bv := ((Boxed.new (w.alloc (.cells #[.slice none 0 0] 27)) 24 (.slice none 0 0)).alloc (.cells #[.string ⟨#[]⟩] 9)).alloc (.cells #[shutV w.heap.size] 1)
    have bb := (Boxed.new ((w.alloc (.cells #[.slice none 0 0] 27)).alloc (.cells #[.slice none 0 0] 24)) 9 (.string ⟨#[]⟩)).alloc (.cells #[shutV w.heap.size] 1)
    have bs := Boxed.new (((w.alloc (.cells #[.slice none 0 0] 27)).alloc (.cells #[.slice none 0 0] 24)).alloc (.cells #[.string ⟨#[]⟩] 9)) 1 (shutV w.heap.size)
    simp only [World.size_alloc] at bv bb bs
    refine ⟨⟨⟨_, bl.alloc _, ⟨rfl, .inl ⟨rfl, rfl⟩⟩⟩, ⟨_, bv.alloc _, rfl⟩, fun h => absurd rfl h⟩, bb.alloc _, bs.alloc _, ?_, by simp⟩
    exact (((((Below.refl _ w).alloc (Nat.le_refl _) _).alloc (by simp) _).alloc (by simp; omega) _).alloc (by simp; omega) _).alloc (by simp; omega) _
  have bX : Boxed W0 (w.heap.size + 4) 9 (.string s) := by
    subst hW0
    have := Boxed.new ((((w.alloc (.cells #[.slice none 0 0] 27)).alloc (.cells #[.slice none 0 0] 24)).alloc (.cells #[.string ⟨#[]⟩] 9)).alloc (.cells #[shutV w.heap.size] 1)) 9 (.string s)
    simpa only [World.size_alloc] using this
  have hsz : W0.heap.size = w.heap.size + 5 := by subst hW0; simp
  simp only [World.size_alloc]
  rw [hW0]
  clear hW0 c3 f3
  have HI0 := Lib.hid hI0
  clear hI0
  gi_wp2_with fail
  have hIO : OwnFrom W0.heap.size (HdI w) := fun pre A B row hI hg hr => ⟨hI.1, hI.2.grown hg (fun r e => by obtain ⟨h1, h2⟩ := hr r e; exact .inr ⟨by omega, h2⟩)⟩
  have hXO : ∀ c, OwnFrom W0.heap.size (HdX w c) := fun c pre A B row hI hg hr => by
    obtain ⟨hc, p, x, hp, h1, h2, h3⟩ := hI
    exact ⟨hc, p, x, hp, h1, h2, h3.grown hg (fun r e => by obtain ⟨h1, h2⟩ := hr r e; exact .inr ⟨by omega, h2⟩)⟩
  have hIX : Bears (w.heap.size + 4) (HdI w) := fun pre A B row hI hg hr => ⟨hI.1, hI.2.grown hg (fun r e => .inl (hr r e))⟩
  have hXX : ∀ c, Bears (w.heap.size + 4) (HdX w c) := fun c pre A B row hI hg hr => by
    obtain ⟨hc, p, x, hp, h1, h2, h3⟩ := hI
    exact ⟨hc, p, x, hp, h1, h2, h3.grown hg (fun r e => .inl (hr r e))⟩
  refine range_iter2 rfl (by omega) (gf := 42) (lb := #[.pointer (some ⟨w.heap.size + 4, 0, none⟩)]) rfl trivial (enters_of Tryd.func42 (by kernel_rfl) rfl)
    (all_iter2 5 (w.heap.size + 4) (by omega) s (by omega) W0 bX) (by omega) (Below.refl _ _) (fun _ => rfl)
    (HdI w) (HdX w) hIO hXO hIX hXX
    ⟨fun y hy => (by cases hy), HI0.out⟩
    (fun x a' W => ∃ Bv, w.heap.size + 5 ≤ Bv ∧ W.heap[Bv]? = some (.cells #[.string ⟨x.1.toArray⟩, .string ⟨x.2.1.toArray⟩, .bool x.2.2] 46 (0, 0)) ∧
      a' = { tmps := #[.string s, undef, .slice none 0 0, .string ⟨#[]⟩, .pointer (some ⟨w.heap.size, 0, none⟩), .pointer (some ⟨w.heap.size + 1, 0, none⟩), .pointer (some ⟨w.heap.size + 1 + 1, 0, none⟩), .pointer (some ⟨w.heap.size + 1 + 1 + 1, 0, none⟩), .pointer (some ⟨Bv, 0, none⟩), undef, undef, undef, shutV w.heap.size, .string s, .func (.func 42) #[] #[.pointer (some ⟨w.heap.size + 1 + 1 + 1 + 1, 0, none⟩)], lnV x, undef, undef, undef, undef, undef, undef, undef, undef, undef, undef, undef, undef, undef, undef, undef, undef, undef, undef, undef, undef, undef, undef, undef, undef, undef, undef, undef, undef, undef, undef, undef, undef, undef, undef, undef, undef, undef, undef, undef, undef, undef, undef, undef, undef, undef, undef, undef, undef, undef, undef, undef, undef, undef, undef, undef, undef, undef], defers := [] })
    ?hAx ?assign ?body ?done ?stop
  case hAx =>
    rintro x a' _ A B row ⟨Bv, h1, h2, h3⟩ hg hr
    refine ⟨Bv, h1, (hg.block Bv (Array.getElem?_eq_some_iff.1 h2).1 (fun e => ?_)).trans h2, h3⟩
    obtain ⟨_, o, ho, hc⟩ := hr Bv e.symm
    rw [h2] at ho; cases ho; cases hc
  case assign =>
    rintro l pre x W K hi hK
    unfold lnV
    have HI := Lib.hid hi
    have hWs : Hid (w.heap.size + 5 ≤ W.heap.size) := Lib.hid hi.2.size
    clear hi
    gi_wp2
    refine hK _ _ ((KeepsOthers.alloc W _).from _) ⟨?_, by simp⟩ (hIO.alloc _ HI.out) ⟨W.heap.size, hWs.out, World.alloc_heap_new W _, rfl⟩
    exact Below.heap_alloc W _ _ (by have := hWs.out; omega)
  case body =>
    rintro l pre ⟨t, r, b⟩ a' W hl hr hi ⟨Bv, hBv, hcv, rfl⟩ hnx
    obtain ⟨hns, hI⟩ := hi
    have hsm := prefix_small (List.IsPrefix.trans (List.prefix_append pre [(t, r, b)]) hnx)
    have hts : t.length ≤ 1000000 := by
      have h1 := linesL_sum _ s.data.toList (Nat.le_refl _)
      obtain ⟨q, hq⟩ := hnx
      have e : s.data.toList.length = s.size := by simp
      rw [← hq] at h1
      simp only [List.map_append, List.flatten_append, List.length_append, List.map_cons, List.flatten_cons] at h1
      omega
    have hsl : s.data.toList.length = s.size := by simp
    rw [hsl] at hsm
    have hBvl := (Array.getElem?_eq_some_iff.1 hcv).1
    have hcx : W.cell? ⟨Bv, 0, none⟩ = some (.string ⟨t.toArray⟩) := by simp [World.cell?, hcv]
    have hcr : W.cell? ⟨Bv, 1, none⟩ = some (.string ⟨r.toArray⟩) := by simp [World.cell?, hcv]
    have hcw : W.cell? ⟨Bv, 2, none⟩ = some (.bool b) := by simp [World.cell?, hcv]
    have hcb := hI.bdb.cell
    have hfb := hI.bdb.frozen
    have hcs := hI.shb.cell
    generalize hst : pre.foldl hdLine ([], none) = st at hI hsm
    have HI := Lib.hid hI
    have HNS := Lib.hid hns
    have HST := Lib.hid hst
    have HCV := Lib.hid hcv
    have HSM := Lib.hid hsm
    have HNX := Lib.hid hnx
    clear hI hns hst hcv hsm hnx hIO hXO hIX hXX HI0 hsl
    cases t with
    | nil =>
      cases b with
      | true =>
        gi_wp2_with fail
        exact ⟨(KeepsOthers.setCell _ _ _).from _, rfl, pre, ([], r, true), rfl, HNS.out, rfl, by rw [HST.out]; exact HI.out.setBody r⟩
      | false =>
        gi_wp2_with fail
        refine ⟨trivial, ?_⟩
        gi_wp2_with fail
        obtain ⟨T, hT⟩ : ∃ T, T = ([] : List UInt8) := ⟨_, rfl⟩
        have hcx : W.cell? ⟨Bv, 0, none⟩ = some (.string ⟨T.toArray⟩) := by rw [hT]; exact hcx
        have hts : T.length ≤ 1000000 := by rw [hT]; exact hts
        have HWH : Hid (whiteHead T = false) := Lib.hid (by rw [hT]; rfl)
        have HSP : Hid (stops (T, r, false) = false) := Lib.hid (by rw [hT]; rfl)
        have HT := Lib.hid hT
        clear hT
        refine ⟨trivial, ((callsIn_wide.2 (shut_any w.heap.size st W HI.out.hd HI.out.size HSM.out.out (fun vs hv => by have := HSM.out.vals vs hv; omega))).inRound l).mono ?_⟩
        rintro e W1 ⟨rfl, hd1, hs1⟩
        have HI1 : Hid (HIv w (shutL st) [] W1) := Lib.hid (HI.out.shuts hs1 hd1)
        have HK1 : Hid (KeepsOthers W W1 ∧ Range.Leaves (w.heap.size + 4) W W1) := Lib.hid ⟨hs1.keeps (by obtain ⟨v, hv, _⟩ := HI.out.hd.vals; exact ⟨v, hv⟩), hs1.leaves HI.out.size⟩
        have hcv1 : W1.heap[Bv]? = W.heap[Bv]? := hs1.block Bv hBvl (by omega) (fun _ cells e => by rw [HCV.out] at e; cases e)
        have hcx1 : W1.cell? ⟨Bv, 0, none⟩ = some (.string ⟨T.toArray⟩) := (World.cell?_of_block hcv1).trans hcx
        clear hd1 hs1 hcv1 hcx hcr hcw hcb hfb hcs
        gi_wp2_with fail
        obtain ⟨k, v0, is, hcut⟩ : ∃ k v0 is, Lib.cut T [58] = (k, v0, is) := ⟨_, _, _, rfl⟩
        have hkl : k.length ≤ 1000000 := by have := (cut_len T 58).1; rw [hcut] at this; exact Nat.le_trans this hts
        obtain ⟨nm, hnm⟩ : ∃ nm, Lib.trimRightS k ws = nm := ⟨_, rfl⟩
        have HF : Hid (fieldIs (T, r, false) = (is && nameB nm) ∧ nameOf (T, r, false) = nm ∧ valOf (T, r, false) = v0) := Lib.hid (by
          unfold fieldIs nameOf valOf
          simp [hcut, hnm, nameOf])
        have hC := cut_one ⟨T.toArray⟩ 58 W1 (by simp only [ByteArray.size, List.size_toArray]; omega)
        rw [show (⟨T.toArray⟩ : ByteArray).data.toList = T by simp, hcut] at hC
        have hR : ∀ W, Calls Tryd.prog 31 #[.string ⟨k.toArray⟩, .string ⟨#[32, 9]⟩] W fun e w' => e = .returned (.string ⟨nm.toArray⟩) ∧ Below W.heap.size W w' := fun W => by
          have := trimRight_any ⟨k.toArray⟩ W (by simp only [ByteArray.size, List.size_toArray]; omega)
          rw [show (⟨k.toArray⟩ : ByteArray).data.toList = k by simp, hnm] at this
          exact this
        have hNm : ∀ W, Calls Tryd.prog 32 #[.string ⟨nm.toArray⟩] W fun e w' => e = .returned (.bool (nameB nm)) ∧ Below W.heap.size W w' := fun W => by
          have := isName_any ⟨nm.toArray⟩ W
          rwa [show (⟨nm.toArray⟩ : ByteArray).data.toList = nm by simp] at this
        have HR := Lib.hid hR
        have HNm := Lib.hid hNm
        clear hcut hnm hR hNm hkl
        refine ⟨trivial, ((callsIn_wide.2 hC).inRound l).mono ?_⟩
        clear hC
        rintro e W2 ⟨rfl, nd, rfl⟩
        have HB2 : Hid (Below W1.heap.size W1 (W1.drewN nd)) := Lib.hid ⟨rfl, rfl, rfl, Nat.le_refl _, fun _ _ => rfl⟩
        generalize W1.drewN nd = W2 at *
        dsimp only
        gi_wp2_with fail
        refine ⟨trivial, ((callsIn_wide.2 (HR.out W2)).inRound l).mono ?_⟩
        rintro e W3 ⟨rfl, hb3⟩
        have HB3 : Hid (Below W1.heap.size W1 W3) := Lib.hid (HB2.out.trans (hb3.mono HB2.out.size))
        clear hb3 HB2 HR
        obtain ⟨A, cap, hlv⟩ : ∃ A cap, Boxed W3 w.heap.size 27 (.slice A (shutL st).1.length cap) ∧ W3.ownsRow (w.heap.size + 5) 29 2 (.slice A (shutL st).1.length cap) (shutL st).1.length (cells29 (shutL st).1) := by
          obtain ⟨lv, h1, h2⟩ := (HI1.out.below HB3.out).hd.rowL
          obtain ⟨A, c, rfl⟩ := row_slice h2
          exact ⟨A, c, h1, h2⟩
        have hcl := hlv.1.cell
        have hol : (shutL st).1.length ≤ 500 := by rw [shutL_len]; exact HSM.out.out
        have HOUT : Hid ((shutL st).1 = (shutL st).1) := Lib.hid rfl
        obtain ⟨n, hn⟩ : ∃ n, (shutL st).1.length = n := ⟨_, rfl⟩
        rw [hn] at hcl hol hlv
        have HLV := Lib.hid hlv
        clear hlv
        cases is with
        | false =>
          gi_wp2_with fail
          refine ⟨trivial, ?_⟩
          gi_wp2_with fail
          have hT := HT.out
          subst hT
          refine ⟨(HK1.out.1.trans (keeps_below HB3.out)).from _, HK1.out.2.trans (leaves_below HB3.out (by have := HI1.out.size; omega)), hdI_snoc HNS.out HST.out HSP.out ?_⟩
          rw [hdLine_no HWH.out (.inl (by rw [HF.out.1]; rfl)), shutL_none]
          exact HI1.out.below HB3.out
        | true =>
          gi_wp2_with fail
          refine ⟨trivial, ((callsIn_wide.2 (HNm.out W3)).inRound l).mono ?_⟩
          rintro e W4 ⟨rfl, hb4⟩
          have hcl4 : W4.cell? ⟨w.heap.size, 0, none⟩ = some (.slice A n cap) := (hb4.cell (p := ⟨w.heap.size, 0, none⟩) (World.block_lt_of_cell? _ _ hcl)).trans hcl
          have hb34 := hb4
          have HB4 : Hid (Below W1.heap.size W1 W4) := Lib.hid (HB3.out.trans (hb4.mono HB3.out.size))
          clear hb4 hcl
          have HB34 := Lib.hid hb34
          clear hb34
          cases hnb : nameB nm with
          | false =>
            have HF2 : Hid (fieldIs (T, r, false) = false) := Lib.hid (by rw [HF.out.1, hnb]; rfl)
            clear hnb
            gi_wp2_with fail
            have hT := HT.out
            subst hT
            refine ⟨(HK1.out.1.trans (keeps_below HB4.out)).from _, HK1.out.2.trans (leaves_below HB4.out (by have := HI1.out.size; omega)), hdI_snoc HNS.out HST.out HSP.out ?_⟩
            rw [hdLine_no HWH.out (.inl HF2.out), shutL_none]
            exact HI1.out.below HB4.out
          | true =>
            have HF2 : Hid (fieldIs (T, r, false) = true) := Lib.hid (by rw [HF.out.1, hnb]; rfl)
            clear hnb
            by_cases h5 : n < 500
            · have e5 : decide ((n : Int) < 500) = true := decide_eq_true (by omega)
              have hb34 := HB34.out
              have hb4' : Hid (HIv w (shutL st) [] W4) := Lib.hid (HI1.out.below HB4.out)
              have hbx4 : Boxed W4 w.heap.size 27 (.slice A n cap) := (hb34.block _ HLV.out.1.lt).trans HLV.out.1
              have hrow4 : W4.ownsRow (w.heap.size + 5) 29 2 (.slice A n cap) n (cells29 (shutL st).1) := own_move HLV.out.2 (fun k hk => by
                obtain ⟨cur, hc⟩ := row_cells HLV.out.2 k hk
                exact hb34.block k (Array.getElem?_eq_some_iff.1 hc).1)
              have hsz4 := hb4'.out.size
              obtain ⟨i9, hj, hj0, hj1, hj2⟩ := info_parts infoFld
              obtain ⟨v24, hv24⟩ : ∃ v, Boxed W4 (w.heap.size + 1) 24 v := by obtain ⟨v, hv, _⟩ := hb4'.out.hd.vals; exact ⟨v, hv⟩
              have HBX4 := Lib.hid hbx4
              have HV24 := Lib.hid hv24
              have HROW4 := Lib.hid hrow4
              clear hbx4 hv24 hrow4 HLV hb34
              gi_wp2_with (gi_at_builtin
                           refine wpListIn_append_own _ rfl _ _ 27 rfl (w.heap.size + 5) 29 i9 (.agg #[.string ⟨#[]⟩, .string ⟨#[]⟩]) 2 32 Tryd.underlying27 hj hj0 hj1 hj2 rfl (by decide) _ _ _ rfl (HROW4.out.alloc _) ⟨W4.heap.size, 0, none⟩ 1 1 [.string ⟨nm.toArray⟩, .string ⟨#[]⟩] rfl rfl (cell_two_new _ _ _ _) (by simp [Value.oneCell']) (by unfold maxLen; omega) (by omega) (by simp; omega) ?_
                           intro v' w5 hown' hgrow _
                           have b5 : Boxed w5 w.heap.size 27 (.slice A n cap) := (HBX4.out.alloc _).kept hgrow (HBX4.out.not_row (by decide) HROW4.out)
                           have b6 : Boxed w5 (w.heap.size + 1) 24 v24 := (HV24.out.alloc _).kept hgrow (HV24.out.not_row (by decide) HROW4.out)
                           have c5 := (b5.alloc (.cells #[.string ⟨v0.toArray⟩] 9)).cell
                           have f5 := (b5.alloc (.cells #[.string ⟨v0.toArray⟩] 9)).frozen
                           have b7 := (b6.alloc (.cells #[.string ⟨v0.toArray⟩] 9)).other (show w.heap.size + 1 ≠ w.heap.size by omega) v'
                           have c7 := b7.cell
                           have f7 := b7.frozen
                           obtain ⟨g', cap', rfl⟩ := ownsRow_succ hown'
                           have HOWN := Lib.hid hown'
                           have HGR := Lib.hid hgrow
                           clear b5 b6 b7 hown' hgrow)
              have hT := HT.out
              subst hT
              have z := HIv.newField (out := (shutL st).1) (by rw [shutL_none]; exact hb4'.out) HBX4.out (by rw [hn]; exact HROW4.out) nm v0 (by rw [hn]; exact HOWN.out) HGR.out _ rfl
              refine ⟨((HK1.out.1.trans (keeps_below HB4.out)).trans z.2.1).from _, (HK1.out.2.trans (leaves_below HB4.out (by have := HI1.out.size; omega))).trans z.2.2, hdI_snoc HNS.out HST.out HSP.out ?_⟩
              rw [hdLine_new HWH.out HF2.out (by rw [hn]; exact h5), HF.out.2.1, HF.out.2.2]
              exact z.1
            · have e5 : decide ((n : Int) < 500) = false := decide_eq_false (by omega)
              have HN5 : Hid (¬ (shutL st).1.length < 500) := Lib.hid (by rw [hn]; exact h5)
              gi_wp2_with fail
              have hT := HT.out
              subst hT
              refine ⟨(HK1.out.1.trans (keeps_below HB4.out)).from _, HK1.out.2.trans (leaves_below HB4.out (by have := HI1.out.size; omega)), hdI_snoc HNS.out HST.out HSP.out ?_⟩
              rw [hdLine_no HWH.out (.inr HN5.out), shutL_none]
              exact HI1.out.below HB4.out
    | cons c t =>
      have he : ({ data := (c :: t).toArray } : ByteArray).extract 0 1 = ⟨#[c]⟩ := ext1 c t
      gi_wp2_with fail
      refine ⟨trivial, ((callsIn_wide.2 (ws_call c W)).inRound l).mono ?_⟩
      rintro e w1 ⟨rfl, rfl⟩
      clear he
      cases hwc : ws.contains c with
      | true =>
        have HW : Hid (whiteHead (c :: t) = true) := Lib.hid hwc
        have hns := neq_nil24
        have hnx := neq_some24
        clear hwc
        obtain ⟨out, o⟩ := st
        obtain ⟨vv, hbv, hvv⟩ := HI.out.hd.vals
        cases o with
        | none =>
          obtain rfl : vv = .slice none 0 0 := hvv
          have hcv := hbv.cell
          clear hbv
          gi_wp2_with fail
          refine ⟨KeepsFrom.refl _ _, ⟨rfl, Nat.le_refl _⟩, hdI_snoc HNS.out HST.out rfl ?_⟩
          rw [hdLine_white HW.out]
          exact HI.out
        | some vs =>
          obtain ⟨hrv, hv0⟩ : W.ownsRow (w.heap.size + 5) 9 1 vv vs.length (strs vs) ∧ 0 < vs.length := hvv
          obtain ⟨gv, capv, rfl⟩ : ∃ g cap, vv = .slice (some ⟨g, 0, none⟩) vs.length cap := by
            rcases hrv.2 with ⟨_, h0⟩ | ⟨g, cap, cur, hv, _⟩
            · omega
            · exact ⟨g, cap, hv⟩
          have hcv := hbv.cell
          have hvl : vs.length ≤ 1000000 := by have := (HSM.out.vals vs rfl).1; omega
          have HBV := Lib.hid hbv
          have HRV := Lib.hid hrv
          have hsz := HI.out.size
          obtain ⟨i0, hi, hz0, hz1, hz2⟩ := info_parts infoStr
          clear hbv hrv
          gi_wp2_with (gi_at_builtin
                       refine wpListIn_append_own _ rfl _ _ 24 rfl (w.heap.size + 5) 9 i0 (.string ⟨#[]⟩) 1 16 Tryd.underlying24 hi hz0 hz1 hz2 rfl (by decide) _ _ _ rfl (HRV.out.alloc _) ⟨W.heap.size, 0, none⟩ 1 1 [.string ⟨(c :: t).toArray⟩] rfl rfl (cell_one_new _ _ _) (by simp [Value.oneCell']) (by unfold maxLen; omega) (by omega) (by simp; omega) ?_
                       intro v' w5 hown' hgrow _
                       obtain ⟨g', cap', rfl⟩ := ownsRow_succ hown'
                       have b5 : Boxed w5 (w.heap.size + 1) 24 _ := (HBV.out.alloc _).kept hgrow (HBV.out.not_row (by decide) HRV.out)
                       have c5 := b5.cell
                       have f5 := b5.frozen
                       have HOWN := Lib.hid hown'
                       have HGR := Lib.hid hgrow
                       clear b5 hown' hgrow)
          have z := HIv.moreText HI.out HBV.out HRV.out (c :: t) HOWN.out HGR.out
          refine ⟨z.2.1.from _, z.2.2, hdI_snoc HNS.out HST.out rfl ?_⟩
          rw [hdLine_white HW.out]
          exact z.1
      | false =>
        have hwh : whiteHead (c :: t) = false := hwc
        gi_wp2_with fail
        obtain ⟨T, hT⟩ : ∃ T, T = c :: t := ⟨_, rfl⟩
        have hcx : W.cell? ⟨Bv, 0, none⟩ = some (.string ⟨T.toArray⟩) := by rw [hT]; exact hcx
        have hts : T.length ≤ 1000000 := by rw [hT]; exact hts
        have HWH : Hid (whiteHead T = false) := Lib.hid (by rw [hT]; exact hwh)
        have HSP : Hid (stops (T, r, b) = false) := Lib.hid (by rw [hT]; rfl)
        have HT := Lib.hid hT
        clear hT
        refine ⟨trivial, ((callsIn_wide.2 (shut_any w.heap.size st W HI.out.hd HI.out.size HSM.out.out (fun vs hv => by have := HSM.out.vals vs hv; omega))).inRound l).mono ?_⟩
        rintro e W1 ⟨rfl, hd1, hs1⟩
        have HI1 : Hid (HIv w (shutL st) [] W1) := Lib.hid (HI.out.shuts hs1 hd1)
        have HK1 : Hid (KeepsOthers W W1 ∧ Range.Leaves (w.heap.size + 4) W W1) := Lib.hid ⟨hs1.keeps (by obtain ⟨v, hv, _⟩ := HI.out.hd.vals; exact ⟨v, hv⟩), hs1.leaves HI.out.size⟩
        have hcv1 : W1.heap[Bv]? = W.heap[Bv]? := hs1.block Bv hBvl (by omega) (fun _ cells e => by rw [HCV.out] at e; cases e)
        have hcx1 : W1.cell? ⟨Bv, 0, none⟩ = some (.string ⟨T.toArray⟩) := (World.cell?_of_block hcv1).trans hcx
        clear hd1 hs1 hcv1 hcx hcr hcw hcb hfb hcs
        gi_wp2_with fail
        obtain ⟨k, v0, is, hcut⟩ : ∃ k v0 is, Lib.cut T [58] = (k, v0, is) := ⟨_, _, _, rfl⟩
        have hkl : k.length ≤ 1000000 := by have := (cut_len T 58).1; rw [hcut] at this; exact Nat.le_trans this hts
        obtain ⟨nm, hnm⟩ : ∃ nm, Lib.trimRightS k ws = nm := ⟨_, rfl⟩
        have HF : Hid (fieldIs (T, r, b) = (is && nameB nm) ∧ nameOf (T, r, b) = nm ∧ valOf (T, r, b) = v0) := Lib.hid (by
          unfold fieldIs nameOf valOf
          simp [hcut, hnm, nameOf])
        have hC := cut_one ⟨T.toArray⟩ 58 W1 (by simp only [ByteArray.size, List.size_toArray]; omega)
        rw [show (⟨T.toArray⟩ : ByteArray).data.toList = T by simp, hcut] at hC
        have hR : ∀ W, Calls Tryd.prog 31 #[.string ⟨k.toArray⟩, .string ⟨#[32, 9]⟩] W fun e w' => e = .returned (.string ⟨nm.toArray⟩) ∧ Below W.heap.size W w' := fun W => by
          have := trimRight_any ⟨k.toArray⟩ W (by simp only [ByteArray.size, List.size_toArray]; omega)
          rw [show (⟨k.toArray⟩ : ByteArray).data.toList = k by simp, hnm] at this
          exact this
        have hNm : ∀ W, Calls Tryd.prog 32 #[.string ⟨nm.toArray⟩] W fun e w' => e = .returned (.bool (nameB nm)) ∧ Below W.heap.size W w' := fun W => by
          have := isName_any ⟨nm.toArray⟩ W
          rwa [show (⟨nm.toArray⟩ : ByteArray).data.toList = nm by simp] at this
        have HR := Lib.hid hR
        have HNm := Lib.hid hNm
        clear hcut hnm hR hNm hkl
        refine ⟨trivial, ((callsIn_wide.2 hC).inRound l).mono ?_⟩
        clear hC
        rintro e W2 ⟨rfl, nd, rfl⟩
        have HB2 : Hid (Below W1.heap.size W1 (W1.drewN nd)) := Lib.hid ⟨rfl, rfl, rfl, Nat.le_refl _, fun _ _ => rfl⟩
        generalize W1.drewN nd = W2 at *
        dsimp only
        gi_wp2_with fail
        refine ⟨trivial, ((callsIn_wide.2 (HR.out W2)).inRound l).mono ?_⟩
        rintro e W3 ⟨rfl, hb3⟩
        have HB3 : Hid (Below W1.heap.size W1 W3) := Lib.hid (HB2.out.trans (hb3.mono HB2.out.size))
        clear hb3 HB2 HR
        obtain ⟨A, cap, hlv⟩ : ∃ A cap, Boxed W3 w.heap.size 27 (.slice A (shutL st).1.length cap) ∧ W3.ownsRow (w.heap.size + 5) 29 2 (.slice A (shutL st).1.length cap) (shutL st).1.length (cells29 (shutL st).1) := by
          obtain ⟨lv, h1, h2⟩ := (HI1.out.below HB3.out).hd.rowL
          obtain ⟨A, c, rfl⟩ := row_slice h2
          exact ⟨A, c, h1, h2⟩
        have hcl := hlv.1.cell
        have hol : (shutL st).1.length ≤ 500 := by rw [shutL_len]; exact HSM.out.out
        have HOUT : Hid ((shutL st).1 = (shutL st).1) := Lib.hid rfl
        obtain ⟨n, hn⟩ : ∃ n, (shutL st).1.length = n := ⟨_, rfl⟩
        rw [hn] at hcl hol hlv
        have HLV := Lib.hid hlv
        clear hlv
        cases is with
        | false =>
          gi_wp2_with fail
          refine ⟨trivial, ?_⟩
          gi_wp2_with fail
          have hT := HT.out
          subst hT
          refine ⟨(HK1.out.1.trans (keeps_below HB3.out)).from _, HK1.out.2.trans (leaves_below HB3.out (by have := HI1.out.size; omega)), hdI_snoc HNS.out HST.out HSP.out ?_⟩
          rw [hdLine_no HWH.out (.inl (by rw [HF.out.1]; rfl)), shutL_none]
          exact HI1.out.below HB3.out
        | true =>
          gi_wp2_with fail
          refine ⟨trivial, ((callsIn_wide.2 (HNm.out W3)).inRound l).mono ?_⟩
          rintro e W4 ⟨rfl, hb4⟩
          have hcl4 : W4.cell? ⟨w.heap.size, 0, none⟩ = some (.slice A n cap) := (hb4.cell (p := ⟨w.heap.size, 0, none⟩) (World.block_lt_of_cell? _ _ hcl)).trans hcl
          have hb34 := hb4
          have HB4 : Hid (Below W1.heap.size W1 W4) := Lib.hid (HB3.out.trans (hb4.mono HB3.out.size))
          clear hb4 hcl
          have HB34 := Lib.hid hb34
          clear hb34
          cases hnb : nameB nm with
          | false =>
            have HF2 : Hid (fieldIs (T, r, b) = false) := Lib.hid (by rw [HF.out.1, hnb]; rfl)
            clear hnb
            gi_wp2_with fail
            have hT := HT.out
            subst hT
            refine ⟨(HK1.out.1.trans (keeps_below HB4.out)).from _, HK1.out.2.trans (leaves_below HB4.out (by have := HI1.out.size; omega)), hdI_snoc HNS.out HST.out HSP.out ?_⟩
            rw [hdLine_no HWH.out (.inl HF2.out), shutL_none]
            exact HI1.out.below HB4.out
          | true =>
            have HF2 : Hid (fieldIs (T, r, b) = true) := Lib.hid (by rw [HF.out.1, hnb]; rfl)
            clear hnb
            by_cases h5 : n < 500
            · have e5 : decide ((n : Int) < 500) = true := decide_eq_true (by omega)
              have hb34 := HB34.out
              have hb4' : Hid (HIv w (shutL st) [] W4) := Lib.hid (HI1.out.below HB4.out)
              have hbx4 : Boxed W4 w.heap.size 27 (.slice A n cap) := (hb34.block _ HLV.out.1.lt).trans HLV.out.1
              have hrow4 : W4.ownsRow (w.heap.size + 5) 29 2 (.slice A n cap) n (cells29 (shutL st).1) := own_move HLV.out.2 (fun k hk => by
                obtain ⟨cur, hc⟩ := row_cells HLV.out.2 k hk
                exact hb34.block k (Array.getElem?_eq_some_iff.1 hc).1)
              have hsz4 := hb4'.out.size
              obtain ⟨i9, hj, hj0, hj1, hj2⟩ := info_parts infoFld
              obtain ⟨v24, hv24⟩ : ∃ v, Boxed W4 (w.heap.size + 1) 24 v := by obtain ⟨v, hv, _⟩ := hb4'.out.hd.vals; exact ⟨v, hv⟩
              have HBX4 := Lib.hid hbx4
              have HV24 := Lib.hid hv24
              have HROW4 := Lib.hid hrow4
              clear hbx4 hv24 hrow4 HLV hb34
              gi_wp2_with (gi_at_builtin
                           refine wpListIn_append_own _ rfl _ _ 27 rfl (w.heap.size + 5) 29 i9 (.agg #[.string ⟨#[]⟩, .string ⟨#[]⟩]) 2 32 Tryd.underlying27 hj hj0 hj1 hj2 rfl (by decide) _ _ _ rfl (HROW4.out.alloc _) ⟨W4.heap.size, 0, none⟩ 1 1 [.string ⟨nm.toArray⟩, .string ⟨#[]⟩] rfl rfl (cell_two_new _ _ _ _) (by simp [Value.oneCell']) (by unfold maxLen; omega) (by omega) (by simp; omega) ?_
                           intro v' w5 hown' hgrow _
                           have b5 : Boxed w5 w.heap.size 27 (.slice A n cap) := (HBX4.out.alloc _).kept hgrow (HBX4.out.not_row (by decide) HROW4.out)
                           have b6 : Boxed w5 (w.heap.size + 1) 24 v24 := (HV24.out.alloc _).kept hgrow (HV24.out.not_row (by decide) HROW4.out)
                           have c5 := (b5.alloc (.cells #[.string ⟨v0.toArray⟩] 9)).cell
                           have f5 := (b5.alloc (.cells #[.string ⟨v0.toArray⟩] 9)).frozen
                           have b7 := (b6.alloc (.cells #[.string ⟨v0.toArray⟩] 9)).other (show w.heap.size + 1 ≠ w.heap.size by omega) v'
                           have c7 := b7.cell
                           have f7 := b7.frozen
                           obtain ⟨g', cap', rfl⟩ := ownsRow_succ hown'
                           have HOWN := Lib.hid hown'
                           have HGR := Lib.hid hgrow
                           clear b5 b6 b7 hown' hgrow)
              have hT := HT.out
              subst hT
              have z := HIv.newField (out := (shutL st).1) (by rw [shutL_none]; exact hb4'.out) HBX4.out (by rw [hn]; exact HROW4.out) nm v0 (by rw [hn]; exact HOWN.out) HGR.out _ rfl
              refine ⟨((HK1.out.1.trans (keeps_below HB4.out)).trans z.2.1).from _, (HK1.out.2.trans (leaves_below HB4.out (by have := HI1.out.size; omega))).trans z.2.2, hdI_snoc HNS.out HST.out HSP.out ?_⟩
              rw [hdLine_new HWH.out HF2.out (by rw [hn]; exact h5), HF.out.2.1, HF.out.2.2]
              exact z.1
            · have e5 : decide ((n : Int) < 500) = false := decide_eq_false (by omega)
              have HN5 : Hid (¬ (shutL st).1.length < 500) := Lib.hid (by rw [hn]; exact h5)
              gi_wp2_with fail
              have hT := HT.out
              subst hT
              refine ⟨(HK1.out.1.trans (keeps_below HB4.out)).from _, HK1.out.2.trans (leaves_below HB4.out (by have := HI1.out.size; omega)), hdI_snoc HNS.out HST.out HSP.out ?_⟩
              rw [hdLine_no HWH.out (.inr HN5.out), shutL_none]
              exact HI1.out.below HB4.out
  case done =>
    rintro D ys W hD rfl hi hK
    obtain ⟨hns, hI⟩ := hi
    have hsm := prefix_small (List.prefix_refl (linesL s.data.toList))
    have hcs := hI.shb.cell
    obtain ⟨st, hst⟩ : ∃ st, (linesL s.data.toList).foldl hdLine ([], none) = st := ⟨_, rfl⟩
    have hout : headL s.data.toList = ((shutL st).1, []) := by
      unfold headL
      rw [hdRun_all _ _ hns, hst]
    rw [hst] at hI hsm
    have HI := Lib.hid hI
    have HSM := Lib.hid hsm
    have HK := Lib.hid hK
    have HOUT := Lib.hid hout
    clear hI hsm hst hK hout hIO hXO hIX hXX HI0
    gi_wp2_with fail
    refine ⟨trivial, (callsIn_wide.2 (shut_any w.heap.size st W HI.out.hd HI.out.size HSM.out.out (fun vs hv => by have := HSM.out.vals vs hv; have e : s.data.toList.length = s.size := (by simp); omega))).mono ?_⟩
    rintro e W1 ⟨rfl, hd1, hs1⟩
    have HI1 : Hid (HIv w (shutL st) [] W1) := Lib.hid (HI.out.shuts hs1 hd1)
    have HK1 : Hid (W1.heap[D]? = some (.deferred (some []))) := Lib.hid ((hs1.keeps (by obtain ⟨v, hv, _⟩ := HI.out.hd.vals; exact ⟨v, hv⟩)).same D _ HK.out rfl)
    clear hd1 hs1 HK hcs
    obtain ⟨lv, hbl, hrl⟩ := HI1.out.hd.rowL
    have hcl := hbl.cell
    have hcb := HI1.out.bdb.cell
    have HRL := Lib.hid hrl
    clear hbl hrl
    gi_wp2_with fail
    gi_quiet (fail)
    have HK2 : Hid ((W1.drewN nq).heap[D]? = some (.deferred (some []))) := Lib.hid HK1.out
    have HR2 : Hid ((W1.drewN nq).ownsRow (w.heap.size + 5) 29 2 lv (shutL st).1.length (cells29 (shutL st).1)) := Lib.hid (own_move HRL.out (fun _ _ => rfl))
    have HB2 : Hid (Below w.heap.size w (W1.drewN nq)) := Lib.hid ⟨HI1.out.low.os, HI1.out.low.tape, HI1.out.low.output, HI1.out.low.size, HI1.out.low.block⟩
    clear hcl hcb
    generalize W1.drewN nq = W2 at *
    gi_wp2
    refine ⟨by simp, .inl ⟨_, _, rfl, run_takeDeferred HK2.out, ?_⟩⟩
    refine ⟨_, results_tmp2 rfl _ _ _, lv, by rw [HOUT.out]; rfl, ?_, HB2.out.grown (grownBy_putObj' W2 D _) HB2.out.size (fun k e => by cases e; omega)⟩
    rw [HOUT.out]
    exact row_weaken (ownsRow_putObj HR2.out _ HK2.out rfl) (by omega)
  case stop =>
    rintro D c pre W hD hSp ⟨rfl, p, x, rfl, hns, hx, hI⟩ hK
    have hsm := prefix_small (List.IsPrefix.trans (List.prefix_append p [x]) hSp)
    have hcs := hI.shb.cell
    obtain ⟨st, hst⟩ : ∃ st, p.foldl hdLine ([], none) = st := ⟨_, rfl⟩
    have hout : headL s.data.toList = ((shutL st).1, x.2.1) := by
      unfold headL
      obtain ⟨q, hq⟩ := hSp
      rw [← hq, List.append_assoc]
      rw [show [x] ++ q = x :: q from rfl, hdRun_stop p x q _ hns hx, hst]
    rw [hst] at hI hsm
    have HI := Lib.hid hI
    have HSM := Lib.hid hsm
    have HK := Lib.hid hK
    have HOUT := Lib.hid hout
    clear hI hsm hst hK hout hIO hXO hIX hXX HI0
    gi_wp2_with fail
    refine ⟨trivial, (callsIn_wide.2 (shut_any w.heap.size st W HI.out.hd HI.out.size HSM.out.out (fun vs hv => by have := HSM.out.vals vs hv; have e : s.data.toList.length = s.size := (by simp); omega))).mono ?_⟩
    rintro e W1 ⟨rfl, hd1, hs1⟩
    have HI1 : Hid (HIv w (shutL st) x.2.1 W1) := Lib.hid (HI.out.shuts hs1 hd1)
    have HK1 : Hid (W1.heap[D]? = some (.deferred (some []))) := Lib.hid ((hs1.keeps (by obtain ⟨v, hv, _⟩ := HI.out.hd.vals; exact ⟨v, hv⟩)).same D _ HK.out rfl)
    clear hd1 hs1 HK hcs
    obtain ⟨lv, hbl, hrl⟩ := HI1.out.hd.rowL
    have hcl := hbl.cell
    have hcb := HI1.out.bdb.cell
    have HRL := Lib.hid hrl
    clear hbl hrl
    gi_wp2_with fail
    gi_quiet (fail)
    have HK2 : Hid ((W1.drewN nq).heap[D]? = some (.deferred (some []))) := Lib.hid HK1.out
    have HR2 : Hid ((W1.drewN nq).ownsRow (w.heap.size + 5) 29 2 lv (shutL st).1.length (cells29 (shutL st).1)) := Lib.hid (own_move HRL.out (fun _ _ => rfl))
    have HB2 : Hid (Below w.heap.size w (W1.drewN nq)) := Lib.hid ⟨HI1.out.low.os, HI1.out.low.tape, HI1.out.low.output, HI1.out.low.size, HI1.out.low.block⟩
    clear hcl hcb
    generalize W1.drewN nq = W2 at *
    gi_wp2
    refine ⟨by simp, .inl ⟨_, _, rfl, run_takeDeferred HK2.out, ?_⟩⟩
    refine ⟨_, results_tmp2 rfl _ _ _, lv, by rw [HOUT.out]; rfl, ?_, HB2.out.grown (grownBy_putObj' W2 D _) HB2.out.size (fun k e => by cases e; omega)⟩
    rw [HOUT.out]
    exact row_weaken (ownsRow_putObj HR2.out _ HK2.out rfl) (by omega)
theorem head_any (s : ByteArray) (w : World) (hs : s.size ≤ 1000000) :
    Calls Tryd.prog 15 #[.string s] w fun e w' => ∃ v, e = .returned (.tuple #[v, .string ⟨(headL s.data.toList).2.toArray⟩]) ∧ w'.ownsRow w.heap.size 29 2 v (headL s.data.toList).1.length (cells29 (headL s.data.toList).1) ∧ Below w.heap.size w w' :=
  callsIn_wide.1 (head_in s w hs)
end Go.Proofs.YtomfdejamngkjaaDoor
