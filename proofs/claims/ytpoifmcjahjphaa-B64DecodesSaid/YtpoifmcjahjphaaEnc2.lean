/- Encode whole. -/
import Derived.Test.YtpoifmcjahjphaaEnc
set_option linter.unusedVariables false
set_option linter.unusedSimpArgs false
namespace Go.Proofs.Ytpoifmcjahjphaa
open Go.RowKit Go.Proofs.YtpoifmcjahjphaaW.PrintWords
/-- What is sent, all, and how many bits are left behind some bytes. -/
def encSt : List UInt8 → List Nat × Nat × Nat
  | l => l.foldl (fun s c => (s.1 ++ sends 6 (nextAll 8 s.2.1 c.toNat) 20 (s.2.2 + 8), nextAll 8 s.2.1 c.toNat, (s.2.2 + 8) % 6)) ([], 0, 0)
theorem encSt_snoc (l : List UInt8) (c : UInt8) : encSt (l ++ [c]) = ((encSt l).1 ++ sends 6 (nextAll 8 (encSt l).2.1 c.toNat) 20 ((encSt l).2.2 + 8), nextAll 8 (encSt l).2.1 c.toNat, ((encSt l).2.2 + 8) % 6) := by
  unfold encSt; rw [List.foldl_append]; rfl
theorem sends_len (A b : Nat) (h : b = 0 ∨ b = 2 ∨ b = 4) : 6 * (sends 6 A 20 (b + 8)).length + (b + 8) % 6 = b + 8 := by
  rcases h with rfl | rfl | rfl <;> rfl
theorem encSt_inv (l : List UInt8) : ((encSt l).2.2 = 0 ∨ (encSt l).2.2 = 2 ∨ (encSt l).2.2 = 4) ∧ (encSt l).2.1 < 65536 ∧ 6 * (encSt l).1.length + (encSt l).2.2 = 8 * l.length := by
  have go : ∀ r : List UInt8, ((encSt r.reverse).2.2 = 0 ∨ (encSt r.reverse).2.2 = 2 ∨ (encSt r.reverse).2.2 = 4) ∧ (encSt r.reverse).2.1 < 65536 ∧ 6 * (encSt r.reverse).1.length + (encSt r.reverse).2.2 = 8 * r.reverse.length := by
    intro r
    induction r with
    | nil => exact ⟨Or.inl rfl, by decide, rfl⟩
    | cons c r ih =>
      obtain ⟨h1, h2, h3⟩ := ih
      rw [List.reverse_cons, encSt_snoc]
      have h4 := sends_len (nextAll 8 (encSt r.reverse).2.1 c.toNat) _ h1
      refine ⟨by simp only; omega, Nat.mod_lt _ (by decide), ?_⟩
      simp only [List.length_append, List.length_singleton]
      omega
  have := go l.reverse
  rwa [List.reverse_reverse] at this


/-- The letters that are written, cut where the bits end. -/
def encT (l : List UInt8) : List UInt8 :=
  ((if 0 < (encSt l).2.2 then (encSt l).1 ++ sends 6 (nextAll 8 (encSt l).2.1 0) 20 ((encSt l).2.2 + 8) else (encSt l).1).map letter).take ((8 * l.length + 5) / 6)
def encB (l : List UInt8) : List UInt8 := encT l ++ List.replicate ((4 - (encT l).length % 4) % 4) 61
theorem encT_len (l : List UInt8) : (encT l).length = (8 * l.length + 5) / 6 := by
  obtain ⟨h1, h2, h3⟩ := encSt_inv l
  have h4 := sends_len (nextAll 8 (encSt l).2.1 0) _ h1
  unfold encT
  rw [List.length_take, List.length_map]
  split
  · rw [List.length_append]; omega
  · omega
theorem repeat_61 : ∀ k : Nat, Lib.repeatL [61] k = List.replicate k 61
  | 0 => rfl
  | k + 1 => by rw [Lib.repeatL, repeat_61 k, List.replicate_succ]; rfl
theorem take_snoc (s : ByteArray) (k : Nat) (h : k < s.size) : s.data.toList.take (k + 1) = s.data.toList.take k ++ [s[k]] := by
  rw [List.take_succ_eq_append_getElem (by simpa using h)]; rfl
set_option maxHeartbeats 8000000 in
set_option maxRecDepth 100000 in
theorem encode_any (s : ByteArray) (w : World) (hs : s.size ≤ 1000000) :
    Calls Try.prog 11 #[.string s] w fun e w' => e = .returned (.string ⟨(encB s.data.toList).toArray⟩) ∧ Below w.heap.size w w' := by
  have hmf : ∀ (fn : Fn) (first cap : Array Value) (w : World), (Instr.makeFunc fn first cap).run Try.prog w = .ok (.func fn first cap) w := fun _ _ _ _ => rfl
  go_enter Try.func11, Try.ntmps11
  go_wp2_with fail
  refine (gather_any 8 6 18 (.pointer (some ⟨w.heap.size, 0, none⟩)) _).mono ?_
  rintro e w1 ⟨rfl, hB, hb⟩
  have HB := Lib.hid hB
  have Hb := Lib.hid hb
  clear hB hb
  have hsz : (w.alloc (Obj.cells #[Value.pointer none, Value.slice none 0 0] 33)).heap.size = w.heap.size + 1 := by simp
  rw [hsz] at HB Hb ⊢
  unfold gatherF
  go_wp2
  have HJ0 : Hid (JE w [] 0 0 w1) := Lib.hid ⟨by
      refine Or.inl ⟨Nat.le_refl _, .slice none 0 0, ?_, ?_, ?_⟩
      · rw [Hb.out.block _ (by omega)]; exact heap_alloc_new w _
      · exact ⟨rfl, Or.inl ⟨rfl, rfl⟩⟩
      · simp [Value.ownBlock], HB.out, ⟨Hb.out.os, Hb.out.tape, Hb.out.output, by have := Hb.out.size; omega, fun i hi => by rw [Hb.out.block i (by omega), Lib.alloc_old w _ i hi]⟩⟩
  clear HB Hb
  go_loopw [5, 12] (fun lf iv wr => ∃ i : Nat, i ≤ s.size ∧ iv = .int .i64 i ∧ lf = .int .i64 (((encSt (s.data.toList.take i)).2.2 : Nat) : Int) ∧ Hid (JE w (encSt (s.data.toList.take i)).1 (encSt (s.data.toList.take i)).2.1 (encSt (s.data.toList.take i)).2.2 wr)) (fun _ iv _ => s.size - (intOf iv).toNat)
  case atStart => exact ⟨0, Nat.zero_le _, rfl, rfl, HJ0⟩
  case round =>
    obtain ⟨i, hi, rfl, rfl, HJ⟩ := hrel
    have hst := encSt_inv (s.data.toList.take i)
    have hli : (s.data.toList.take i).length = i := by rw [List.length_take]; simp; omega
    rw [hli] at hst
    by_cases hlt : i < s.size
    · have hp : (0 : Int) ≤ (i : Int) := by omega
      have hq : (i : Int) < (s.size : Int) := by omega
      have HT := Lib.hid (encSt_snoc (s.data.toList.take i) s[i])
      have HK := Lib.hid (take_snoc s i hlt)
      have hc := s[i].toNat_lt
      obtain ⟨h1, h2, h3⟩ := hst
      have H3 := Lib.hid h3
      clear h3 hli
      generalize hE : encSt (s.data.toList.take i) = E at *
      have HE := Lib.hid hE
      clear hE
      go_wp2_with fail
      refine (add_enc w _ _ _ s[i].toNat _ HJ.out h1 h2 (by omega) (by have := H3.out; omega)).mono ?_
      rintro e w2 ⟨rfl, hJ2⟩
      have HJ2 := Lib.hid hJ2
      clear hJ2 HJ
      go_wp2
      go_roundw
      case rel => exact ⟨i + 1, by omega, by go_num, by rw [HK.out, HT.out]; show Value.int _ _ = Value.int _ (((E.2.2 + 8) % 6 : Nat) : Int); push_cast; rfl, by rw [HK.out, HT.out]; exact HJ2⟩
      case measure => simp [intOf]; omega
    · obtain rfl : i = s.size := by omega
      have HTA : Hid (s.data.toList.take s.size = s.data.toList) := Lib.hid (List.take_of_length_le (by simp))
      rw [HTA.out] at HJ hst ⊢
      have HL := Lib.hid (encT_len s.data.toList)
      have hl : s.data.toList.length = s.size := by simp
      rw [hl] at HL
      clear hli
      have HT : Hid (encT s.data.toList = ((if 0 < (encSt s.data.toList).2.2 then (encSt s.data.toList).1 ++ sends 6 (nextAll 8 (encSt s.data.toList).2.1 0) 20 ((encSt s.data.toList).2.2 + 8) else (encSt s.data.toList).1).map letter).take ((8 * s.size + 5) / 6)) := Lib.hid (by unfold encT; rw [hl])
      clear hl
      obtain ⟨h1, h2, h3⟩ := hst
      have H3 := Lib.hid h3
      clear h3
      have HEB : Hid (encB s.data.toList = encT s.data.toList ++ List.replicate ((4 - (encT s.data.toList).length % 4) % 4) 61) := Lib.hid rfl
      generalize hE : encSt s.data.toList = E at *
      have HE := Lib.hid hE
      clear hE
      have HREP : Hid (∀ k : Nat, Lib.repeatL [61] k = List.replicate k 61) := Lib.hid repeat_61
      by_cases h0 : 0 < E.2.2
      · have hp : (0 : Int) < (E.2.2 : Int) := by omega
        rw [if_pos h0] at HT
        have hadd := add_enc w _ _ _ 0 _ HJ.out h1 h2 (by decide) (by have := H3.out; omega)
        rw [show (((0 : Nat) : Int)) = 0 from rfl] at hadd
        have hlen : E.1.length + (sends 6 (nextAll 8 E.2.1 0) 20 (E.2.2 + 8)).length = (E.1 ++ sends 6 (nextAll 8 E.2.1 0) 20 (E.2.2 + 8)).length := by rw [List.length_append]
        have hsl := sends_len (nextAll 8 E.2.1 0) _ h1
        have HLEN : Hid ((s.size * 8 + 5) / 6 ≤ (E.1 ++ sends 6 (nextAll 8 E.2.1 0) 20 (E.2.2 + 8)).length) := Lib.hid (by have := H3.out; omega)
        clear hlen hsl
        go_wp2_with fail
        refine hadd.mono ?_
        rintro e w2 ⟨rfl, hJ2⟩
        clear hadd HJ
        have hbld := hJ2.1
        have HB2 := Lib.hid hJ2.2.2
        have hBs := hJ2.2.2.size
        clear hJ2
        generalize (E.1 ++ sends 6 (nextAll 8 E.2.1 0) 20 (E.2.2 + 8)) = out at *
        have HBLD := Lib.hid hbld
        have g0 : (0 : Int) ≤ ((s.size : Int) * 8 + 6 - 1) / 6 := by omega
        have g1 : ((s.size : Int) * 8 + 6 - 1) / 6 ≤ (out.length : Int) := by have := HLEN.out; omega
        clear hbld h1 h2
        go_wp2_with fail
        refine (Try.Builder_String_any w.heap.size w.heap.size (out.map letter) w2 HBLD.out hBs).mono ?_
        rintro e w3 ⟨rfl, hb3⟩
        have Hb3 := Lib.hid hb3
        clear hb3
        go_wp2_with fail
        have HM : Hid ((-(((min ((s.size * 8 + 5) / 6) out.length : Nat) : Int) % 4) % 4) = (((4 - (encT s.data.toList).length % 4) % 4 : Nat) : Int)) := Lib.hid (by rw [HL.out, Nat.min_eq_left HLEN.out, Nat.mul_comm 8]; generalize (s.size * 8 + 5) / 6 = q; omega)
        rw [HM.out]
        refine (Try.strings_Repeat ⟨#[61]⟩ _ w3 (by omega) (by show 1 * _ ≤ _; omega)).mono ?_
        rintro e w4 ⟨rfl, hb4⟩
        have Hb4 := Lib.hid hb4
        clear hb4
        have hbd : ¬ (9223372036854775807 < min ((s.size * 8 + 5) / 6) out.length + (Lib.repeatL [61] ((4 - (encT s.data.toList).length % 4) % 4)).length) := by
          rw [Lib.repeatL_length, List.length_singleton]; omega
        go_wp2_with fail
        go_ret
        refine ⟨?_, (HB2.out.trans Hb3.out).trans (Hb4.out.mono (HB2.out.trans Hb3.out).size)⟩
        have e1 : (⟨(out.map letter).toArray⟩ : ByteArray).extract 0 ((s.size * 8 + 5) / 6) = ⟨(encT s.data.toList).toArray⟩ := by
          rw [← Lib.mk_data ((⟨(out.map letter).toArray⟩ : ByteArray).extract 0 ((s.size * 8 + 5) / 6)), Lib.extract_data, HT.out, Nat.mul_comm 8]
          rfl
        rw [e1, HEB.out, HREP.out]
        congr 2
      · have hp : ¬ (0 : Int) < (E.2.2 : Int) := by omega
        rw [if_neg h0] at HT
        have HLEN : Hid ((s.size * 8 + 5) / 6 ≤ E.1.length) := Lib.hid (by have := H3.out; omega)
        have hbld := HJ.out.1
        have HB2 := Lib.hid HJ.out.2.2
        have hBs := HJ.out.2.2.size
        clear HJ
        generalize E.1 = out at *
        have HBLD := Lib.hid hbld
        have g0 : (0 : Int) ≤ ((s.size : Int) * 8 + 6 - 1) / 6 := by omega
        have g1 : ((s.size : Int) * 8 + 6 - 1) / 6 ≤ (out.length : Int) := by have := HLEN.out; omega
        clear hbld h1 h2
        go_wp2_with fail
        refine (Try.Builder_String_any w.heap.size w.heap.size (out.map letter) wr HBLD.out hBs).mono ?_
        rintro e w3 ⟨rfl, hb3⟩
        have Hb3 := Lib.hid hb3
        clear hb3
        go_wp2_with fail
        have HM : Hid ((-(((min ((s.size * 8 + 5) / 6) out.length : Nat) : Int) % 4) % 4) = (((4 - (encT s.data.toList).length % 4) % 4 : Nat) : Int)) := Lib.hid (by rw [HL.out, Nat.min_eq_left HLEN.out, Nat.mul_comm 8]; generalize (s.size * 8 + 5) / 6 = q; omega)
        rw [HM.out]
        refine (Try.strings_Repeat ⟨#[61]⟩ _ w3 (by omega) (by show 1 * _ ≤ _; omega)).mono ?_
        rintro e w4 ⟨rfl, hb4⟩
        have Hb4 := Lib.hid hb4
        clear hb4
        have hbd : ¬ (9223372036854775807 < min ((s.size * 8 + 5) / 6) out.length + (Lib.repeatL [61] ((4 - (encT s.data.toList).length % 4) % 4)).length) := by
          rw [Lib.repeatL_length, List.length_singleton]; omega
        go_wp2_with fail
        go_ret
        refine ⟨?_, (HB2.out.trans Hb3.out).trans (Hb4.out.mono (HB2.out.trans Hb3.out).size)⟩
        have e1 : (⟨(out.map letter).toArray⟩ : ByteArray).extract 0 ((s.size * 8 + 5) / 6) = ⟨(encT s.data.toList).toArray⟩ := by
          rw [← Lib.mk_data ((⟨(out.map letter).toArray⟩ : ByteArray).extract 0 ((s.size * 8 + 5) / 6)), Lib.extract_data, HT.out, Nat.mul_comm 8]
          rfl
        rw [e1, HEB.out, HREP.out]
        congr 2
end Go.Proofs.Ytpoifmcjahjphaa
