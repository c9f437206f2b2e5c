/- What the functions of package pct come to at this program: walks, each function once. -/
import Derived.Test.YtkiicejnoigmbaaBld
import Derived.Test.YtkiicejnoigmbaaShelf
import Derived.Test.YtkiicejnoigmbaaPlain
import Derived.Deep.RegionWith
import Derived.Deep.QuietTactic
import Derived.BigQuiet
import Derived.StillTailTactics
import Derived.Lib.Hide
import Derived.Lib.CutLaws
import Derived.Lib.IndexBytes
import Derived.Lib.ConvBytes
import Derived.Deep.DeepCutAuto
set_option linter.unusedVariables false
namespace Go.Proofs.Ytkiicejnoigmbaa
open Go.RowKit Plain

theorem orBits : ∀ c : UInt8, 0 ≤ bits BinOp.or IntKind.u8 c.toNat 32 ∧ (decide (97 ≤ bits BinOp.or IntKind.u8 c.toNat 32) && decide (bits BinOp.or IntKind.u8 c.toNat 32 ≤ 122)) = isL c := u8_all (by decide +kernel)

set_option maxHeartbeats 400000 in
theorem isLetter_any (c : UInt8) (w : World) :
    Calls Try.prog 24 #[.int .u8 c.toNat] w fun e w' => e = .returned (.bool (isL c)) ∧ w' = w := by
  have H := Lib.hid (orBits c).2
  go_enter Try.func24, Try.ntmps24
  go_wp2
  · go_ret
    refine ⟨?_, rfl⟩
    have h : 97 ≤ bits BinOp.or IntKind.u8 c.toNat 32 := by assumption
    rw [← H.out, decide_eq_true h]; rfl
  · go_ret
    refine ⟨?_, rfl⟩
    have h : bits BinOp.or IntKind.u8 c.toNat 32 < 97 := by assumption
    rw [← H.out, decide_eq_false (show ¬ (97 ≤ bits BinOp.or IntKind.u8 c.toNat 32) by omega)]; rfl

theorem isD_int (c : UInt8) : isD c = (decide (48 ≤ (c.toNat : Int)) && decide ((c.toNat : Int) ≤ 57)) := by
  unfold isD
  congr 1 <;> simp [UInt8.le_iff_toNat_le] <;> omega

set_option maxHeartbeats 400000 in
theorem isDigit_any (c : UInt8) (w : World) :
    Calls Try.prog 25 #[.int .u8 c.toNat] w fun e w' => e = .returned (.bool (isD c)) ∧ w' = w := by
  have H := Lib.hid (isD_int c)
  go_enter Try.func25, Try.ntmps25
  go_wp2
  · go_ret
    refine ⟨?_, rfl⟩
    have h : 48 ≤ (c.toNat : Int) := by assumption
    rw [H.out, decide_eq_true h]; rfl
  · go_ret
    refine ⟨?_, rfl⟩
    have h : (c.toNat : Int) < 48 := by assumption
    rw [H.out, decide_eq_false (show ¬ (48 ≤ (c.toNat : Int)) by omega)]; rfl

theorem isM_index : ∀ c : UInt8, (decide (0 ≤ Lib.indexByte [45, 46, 95, 126] c)) = isM c := u8_all (by decide +kernel)

set_option maxHeartbeats 800000 in
theorem stays_any (c : UInt8) (w : World) :
    Calls Try.prog 23 #[.int .u8 c.toNat] w fun e w' => e = .returned (.bool (stays c)) ∧ w' = w := by
  have hm := Lib.hid (isM_index c)
  have hs : Hid (stays c = (isL c || isD c || isM c)) := Lib.hid rfl
  by_cases hL : isL c = true
  · go_enter Try.func23, Try.ntmps23
    go_wp2_with fail
    refine (isLetter_any c w).mono ?_
    rintro e w' ⟨rfl, rfl⟩
    rw [hL]
    go_wp2
    go_ret
    exact ⟨by rw [hs.out, hL]; rfl, rfl⟩
  · have hL' : isL c = false := by simpa using hL
    clear hL
    by_cases hD : isD c = true
    · go_enter Try.func23, Try.ntmps23
      go_wp2_with fail
      refine (isLetter_any c w).mono ?_
      rintro e w' ⟨rfl, rfl⟩
      rw [hL']
      go_wp2_with fail
      refine (isDigit_any c w').mono ?_
      rintro e w'' ⟨rfl, rfl⟩
      rw [hD]
      go_wp2
      go_ret
      exact ⟨by rw [hs.out, hD]; simp, rfl⟩
    · have hD' : isD c = false := by simpa using hD
      clear hD
      go_enter Try.func23, Try.ntmps23
      go_wp2_with fail
      refine (isLetter_any c w).mono ?_
      rintro e w' ⟨rfl, rfl⟩
      rw [hL']
      go_wp2_with fail
      refine (isDigit_any c w').mono ?_
      rintro e w'' ⟨rfl, rfl⟩
      rw [hD']
      go_wp2_with fail
      refine (Try.strings_IndexByte _ _ w'').mono ?_
      rintro e w3 ⟨rfl, rfl⟩
      go_wp2
      go_ret
      refine ⟨?_, rfl⟩
      rw [hs.out, hL', hD', ← hm.out]; simp

theorem bytes_take (s : ByteArray) (k : Nat) (h : k < s.size) : s.data.toList.take (k + 1) = s.data.toList.take k ++ [s[k]] := by
  rw [List.take_succ_eq_append_getElem (by simpa using h)]; rfl


theorem addr_add' (b o j : Nat) : (⟨b, o, none⟩ : Addr).add j = ⟨b, o + j, none⟩ := by
  unfold Addr.add
  split
  · rename_i h; subst h; rfl
  · rfl

theorem byteCells_append (a b : List UInt8) : Lib.byteCells (a ++ b) = Lib.byteCells a ++ Lib.byteCells b := by simp [Lib.byteCells]

def digitsB : ByteArray := ⟨#[48, 49, 50, 51, 52, 53, 54, 55, 56, 57, 65, 66, 67, 68, 69, 70]⟩
theorem digitsB_get : ∀ n : Fin 16, digitsB[(n : Nat)]'(n.isLt) = dig n := by decide +kernel
theorem hex_index (i : Int) (h0 : 0 ≤ i) (h1 : i < 16) (w : World) :
    (Instr.index 9 (.string ⟨#[48, 49, 50, 51, 52, 53, 54, 55, 56, 57, 65, 66, 67, 68, 69, 70]⟩) (.int .u8 i)).run Try.prog w = .ok (.int .u8 ((dig i.toNat).toNat : Int)) w := by
  rw [run_index_string w 9 _ .u8 i Try.underlying9, dif_pos (show 0 ≤ i ∧ i < ((⟨#[48, 49, 50, 51, 52, 53, 54, 55, 56, 57, 65, 66, 67, 68, 69, 70]⟩ : ByteArray).size : Int) from ⟨h0, h1⟩)]
  have := digitsB_get ⟨i.toNat, by omega⟩
  simp only [digitsB] at this
  rw [this]
theorem and15 : ∀ c : UInt8, bits BinOp.and IntKind.u8 c.toNat 15 = ((c.toNat % 16 : Nat) : Int) := u8_all (by decide +kernel)

set_option maxHeartbeats 2000000 in
theorem write_pct (s : ByteArray) (w : World) (hs : s.size ≤ 46912496117077) :
    Calls Try.prog 22 #[.string s, .func (.func 23) #[] #[]] w fun e w' => e = .returned (.string ⟨(enc s.data.toList).toArray⟩) ∧ Below w.heap.size w w' := by
  go_enter Try.func22, Try.ntmps22
  go_wp2
  go_loopw [10] (fun i wr => ∃ k : Nat, k ≤ s.size ∧ i = .int .i64 k ∧ Lib.IsBuilder 32 5 w.heap.size w.heap.size (Lib.byteCells (enc (s.data.toList.take k))) wr ∧ Below w.heap.size w wr) (fun i _ => s.size - (intOf i).toNat)
  case atStart =>
    refine ⟨0, Nat.zero_le _, rfl, ?_, (Below.refl _ _).alloc (Nat.le_refl _) _⟩
    refine .inl ⟨Nat.le_refl _, .slice none 0 0, heap_alloc_new w _, ?_, by simp [Value.ownBlock]⟩
    exact ⟨by simp [enc, Lib.byteCells], .inl ⟨rfl, by simp [enc, Lib.byteCells]⟩⟩
  case round =>
    obtain ⟨k, hk, rfl, hB, hb⟩ := hrel
    by_cases hlt : k < s.size
    · have hBs := hb.size
      have HB := Lib.hid hB
      have Hb := Lib.hid hb
      have hlen : (Lib.byteCells (enc (s.data.toList.take k))).length ≤ 3 * k := by
        rw [Lib.byteCells_length]
        have := (enc_len (s.data.toList.take k)).2
        have h2 : (s.data.toList.take k).length ≤ k := List.length_take_le _ _
        omega
      have htk := Lib.hid (bytes_take s k hlt)
      clear hB hb
      by_cases hst : stays s[k] = true
      · have hstep : Hid (Lib.byteCells (enc (s.data.toList.take (k + 1))) = Lib.byteCells (enc (s.data.toList.take k)) ++ [.int .u8 s[k].toNat]) := Lib.hid (by
          rw [htk.out, enc_append, enc_one, byteCells_append]
          unfold encB
          rw [if_pos hst]; rfl)
        go_wp2_with fail
        refine (stays_any s[k] _).mono ?_
        rintro e w1 ⟨rfl, rfl⟩
        rw [hst]
        go_wp2_with fail
        refine (writeByte_any w.heap.size w.heap.size _ _ _ HB.out (by omega) hBs).mono ?_
        rintro e w2 ⟨rfl, hB2, hb2⟩
        have HB2 := Lib.hid hB2
        have Hb2 := Lib.hid hb2
        clear hB2 hb2
        go_wp2
        go_roundw
        case rel => exact ⟨k + 1, by omega, by go_num, by rw [hstep.out]; exact .inr HB2.out, Hb.out.trans Hb2.out⟩
        case measure => simp [intOf]; omega
      · have hst' : stays s[k] = false := by simpa using hst
        clear hst
        have hstep : Hid (Lib.byteCells (enc (s.data.toList.take (k + 1))) = Lib.byteCells (enc (s.data.toList.take k)) ++ [.int .u8 37, .int .u8 (dig (s[k].toNat / 16)).toNat, .int .u8 (dig (s[k].toNat % 16)).toNat]) := Lib.hid (by
          rw [htk.out, enc_append, enc_one, byteCells_append]
          unfold encB
          rw [if_neg (by rw [hst']; simp)]; rfl)
        have hc256 := s[k].toNat_lt
        have hx1 : ∀ W, (Instr.index 9 (.string ⟨#[48, 49, 50, 51, 52, 53, 54, 55, 56, 57, 65, 66, 67, 68, 69, 70]⟩) (.int .u8 ((s[k].toNat : Int) / 16))).run Try.prog W = .ok (.int .u8 ((dig (s[k].toNat / 16)).toNat : Int)) W := fun W => by
          have := hex_index ((s[k].toNat : Int) / 16) (by omega) (by omega) W
          rwa [show ((s[k].toNat : Int) / 16).toNat = s[k].toNat / 16 by omega] at this
        have hx2 : ∀ W, (Instr.index 9 (.string ⟨#[48, 49, 50, 51, 52, 53, 54, 55, 56, 57, 65, 66, 67, 68, 69, 70]⟩) (.int .u8 (bits BinOp.and IntKind.u8 s[k].toNat 15))).run Try.prog W = .ok (.int .u8 ((dig (s[k].toNat % 16)).toNat : Int)) W := fun W => by
          rw [and15 s[k]]
          have := hex_index ((s[k].toNat % 16 : Nat) : Int) (by omega) (by omega) W
          rwa [Int.toNat_natCast] at this
        go_wp2_with fail
        refine (stays_any s[k] _).mono ?_
        rintro e w1 ⟨rfl, rfl⟩
        rw [hst']
        go_wp2_with fail
        go_still_tail 6, (by kernel_rfl)
        have HB1 : Hid (Lib.IsBuilder 32 5 w.heap.size w.heap.size (Lib.byteCells (enc (s.data.toList.take k))) w1.drew) := Lib.hid HB.out
        have Hb1 : Hid (Below w.heap.size w w1.drew) := Lib.hid Hb.out.drew
        have hBs1 : w.heap.size ≤ w1.drew.heap.size := hBs
        clear hx1 hx2 HB Hb hBs
        change wpList _ _ _ _ _ w1.drew
        generalize w1.drew = w2 at *
        go_wp2_with fail
        refine (write_any w.heap.size w.heap.size _ ⟨w2.heap.size, 0, none⟩ 3 3 [.int .u8 37, .int .u8 (dig (s[k].toNat / 16)).toNat, .int .u8 (dig (s[k].toNat % 16)).toNat] _ (isBuilder_alloc HB1.out _) rfl ?_ ?_ ?_ (by omega) (by simp; omega)).mono ?_
        · intro j u hj
          rw [addr_add', Nat.zero_add, Lib.cell_of_heap (heap_alloc_new w2 _)]
          simpa using hj
        · simp
          have := isBuilder_lt HB1.out
          omega
        · intro u hu; simp at hu; rcases hu with rfl | rfl | rfl <;> rfl
        rintro e w3 ⟨rfl, hB2, hb2⟩
        have HB2 := Lib.hid hB2
        have Hb2 := Lib.hid hb2
        clear hB2 hb2
        go_wp2
        go_roundw
        case rel => exact ⟨k + 1, by omega, by go_num, by rw [hstep.out]; exact .inr HB2.out, (Hb1.out.alloc hBs1 _).trans Hb2.out⟩
        case measure => simp [intOf]; omega
    · obtain rfl : k = s.size := by omega
      have HB := Lib.hid hB
      have Hb := Lib.hid hb
      have hBs := hb.size
      clear hB hb
      go_wp2_with fail
      refine (Try.Builder_String_any w.heap.size w.heap.size _ _ HB.out hBs).mono ?_
      rintro e w2 ⟨rfl, hb2⟩
      have Hb2 := Lib.hid hb2
      clear hb2
      go_wp2
      go_ret
      refine ⟨?_, Hb.out.trans Hb2.out⟩
      rw [List.take_of_length_le (by simp)]; rfl

set_option maxHeartbeats 400000 in
theorem encode_any (s : ByteArray) (w : World) (hs : s.size ≤ 46912496117077) :
    Calls Try.prog 12 #[.string s] w fun e w' => e = .returned (.string ⟨(enc s.data.toList).toArray⟩) ∧ Below w.heap.size w w' := by
  go_enter Try.func12, Try.ntmps12
  go_wp2_with fail
  refine (write_pct s w hs).mono ?_
  rintro e w' ⟨rfl, hb⟩
  have Hb := Lib.hid hb
  clear hb
  go_wp2
  go_ret
  exact ⟨rfl, Hb.out⟩

theorem hv_index : ∀ c : UInt8, hv c = Lib.indexByte [48, 49, 50, 51, 52, 53, 54, 55, 56, 57, 65, 66, 67, 68, 69, 70] (if 97 ≤ c.toNat ∧ c.toNat ≤ 102 then c - 32 else c) := u8_all (by decide +kernel)

theorem sub32 : ∀ c : UInt8, 97 ≤ c.toNat → UInt8.ofNat ((c.toNat : Int) - 32).toNat = c - 32 := u8_all (by decide +kernel)

set_option maxHeartbeats 800000 in
theorem value_any (c : UInt8) (w : World) :
    Calls Try.prog 18 #[.int .u8 c.toNat] w fun e w' => e = .returned (.int .i64 (hv c)) ∧ w' = w := by
  have H := Lib.hid (hv_index c)
  have hc := c.toNat_lt
  by_cases h1 : 97 ≤ (c.toNat : Int)
  · by_cases h2 : (c.toNat : Int) ≤ 102
    · go_enter Try.func18, Try.ntmps18
      go_wp2_with fail
      refine (Try.strings_IndexByte _ _ w).mono ?_
      rintro e w3 ⟨rfl, rfl⟩
      go_wp2
      go_ret
      refine ⟨?_, rfl⟩
      rw [H.out, if_pos (by omega), ← sub32 c (by omega)]
      rfl
    · go_enter Try.func18, Try.ntmps18
      go_wp2_with fail
      refine (Try.strings_IndexByte _ _ w).mono ?_
      rintro e w3 ⟨rfl, rfl⟩
      go_wp2
      go_ret
      refine ⟨?_, rfl⟩
      rw [H.out, if_neg (by omega)]
      simp
  · go_enter Try.func18, Try.ntmps18
    go_wp2_with fail
    refine (Try.strings_IndexByte _ _ w).mono ?_
    rintro e w3 ⟨rfl, rfl⟩
    go_wp2
    go_ret
    refine ⟨?_, rfl⟩
    rw [H.out, if_neg (by omega)]
    simp

def strSize : Value → Nat
  | .string b => b.size
  | _ => 0

theorem hv_le : ∀ c : UInt8, hv c ≤ 15 := u8_all (by decide +kernel)
theorem or16 : ∀ a b : Fin 16, bits BinOp.or IntKind.i64 ((a : Int) * 16) (b : Int) = (a : Int) * 16 + b := by decide +kernel
theorem or_join (a b : UInt8) (ha : 0 ≤ hv a) (hb : 0 ≤ hv b) : bits BinOp.or IntKind.i64 (hv a * 16) (hv b) = hv a * 16 + hv b := by
  have h1 := hv_le a
  have h2 := hv_le b
  have := or16 ⟨(hv a).toNat, by omega⟩ ⟨(hv b).toNat, by omega⟩
  simpa [Int.toNat_of_nonneg ha, Int.toNat_of_nonneg hb] using this
theorem join_nat (a b : UInt8) (ha : 0 ≤ hv a) (hb : 0 ≤ hv b) : ((join a b).toNat : Int) = hv a * 16 + hv b := by
  have h1 := hv_le a
  have h2 := hv_le b
  unfold join
  rw [UInt8.toNat_ofNat']
  omega

theorem list_cons (t : ByteArray) (h : 0 < t.size) : t.data.toList = t[0] :: (t.extract 1 t.size).data.toList := by
  rw [Lib.extract_to_end]
  have hl : 0 < t.data.toList.length := by simpa using h
  cases e : t.data.toList with
  | nil => rw [e] at hl; exact absurd hl (by simp)
  | cons c r =>
    have : t[0] = t.data.toList[0] := rfl
    rw [this]
    simp only [e, List.getElem_cons_zero, List.drop_succ_cons, List.drop_zero]
theorem list_cons3 (t : ByteArray) (h : 2 < t.size) : t.data.toList = t[0] :: t[1] :: t[2] :: (t.extract 3 t.size).data.toList := by
  rw [Lib.extract_to_end]
  have hl : 2 < t.data.toList.length := by simpa using h
  have e0 : t[0] = t.data.toList[0] := rfl
  have e1 : t[1] = t.data.toList[1] := rfl
  have e2 : t[2] = t.data.toList[2] := rfl
  rw [e0, e1, e2]
  exact (fun (l : List UInt8) (hl : 2 < l.length) => (by match l, hl with | a :: b :: c :: r, _ => simp : l = l[0] :: l[1] :: l[2] :: l.drop 3)) _ hl
theorem dec_hex (t : ByteArray) (h : 2 < t.size) (h0 : t[0] = 37) (h1 : (0 : Int) ≤ hv t[1]) (h2 : (0 : Int) ≤ hv t[2]) : dec t.data.toList = join t[1] t[2] :: dec (t.extract 3 t.size).data.toList := by
  rw [list_cons3 t h, dec_cons, if_pos ⟨h0, by simp [isHex, h1, h2]⟩]
  rfl
theorem dec_no (t : ByteArray) (h : 0 < t.size) (hn : ∀ (h : 2 < t.size), t[0] = 37 → (0 : Int) ≤ hv t[1] → (0 : Int) ≤ hv t[2] → False) : dec t.data.toList = t[0] :: dec (t.extract 1 t.size).data.toList := by
  rw [list_cons t h, dec_cons, if_neg]
  · rintro ⟨h0, h1⟩
    have hs : 2 < t.size := by
      have hz : (t.extract 1 t.size).data.toList.length = t.size - 1 := by simp
      match e : (t.extract 1 t.size).data.toList, h1 with
      | a :: b :: r, _ => rw [e] at hz; simp at hz; omega
    have e3 := list_cons3 t hs
    rw [list_cons t h] at e3
    have e4 := (List.cons.inj e3).2
    rw [e4] at h1
    simp [isHex] at h1
    exact hn hs h0 h1.1 h1.2
theorem size_ext (t : ByteArray) (a : Nat) : (t.extract a t.size).size = t.size - a := by simp
theorem u8_eq37 (c : UInt8) : (((c.toNat : Int) == 37) = true) ↔ c = 37 := by
  rw [beq_iff_eq]
  constructor
  · intro h; apply UInt8.toNat_inj.1; show c.toNat = 37; omega
  · rintro rfl; rfl

theorem below_drewN' {B : Nat} {w W : World} (h : Below B w W) (n : Nat) : Below B w (W.drewN n) := ⟨h.os, h.tape, h.output, h.size, h.block⟩

set_option maxHeartbeats 4000000 in
theorem decode_any (s : ByteArray) (w : World) (hs : s.size ≤ 140737488351232) :
    Calls Try.prog 10 #[.string s] w fun e w' => e = .returned (.string ⟨(dec s.data.toList).toArray⟩) ∧ Below w.heap.size w w' := by
  go_enter Try.func10, Try.ntmps10
  go_wp2
  go_loopw [0] (fun sv wr => ∃ (t : ByteArray) (done : List UInt8), sv = .string t ∧ done.length + t.size ≤ s.size ∧ Hid (done ++ dec t.data.toList = dec s.data.toList) ∧ Lib.IsBuilder 32 5 w.heap.size w.heap.size (Lib.byteCells done) wr ∧ Below w.heap.size w wr) (fun sv _ => strSize sv)
  case atStart =>
    exact ⟨s, [], rfl, by simp, Lib.hid (by simp), Lib.fresh_isBuilder 32 5 w, (Below.refl _ _).alloc (Nat.le_refl _) _⟩
  case round =>
    obtain ⟨t, done, rfl, hl, HD, hB, hb⟩ := hrel
    have hBs := hb.size
    have HB := Lib.hid hB
    have Hb := Lib.hid hb
    have hlen : (Lib.byteCells done).length + 1 ≤ 140737488351232 ∨ t.size = 0 := by
      rw [Lib.byteCells_length]; omega
    clear hB hb
    by_cases h0 : t.size = 0
    · have e0 : t.data.toList = [] := by
        apply List.eq_nil_of_length_eq_zero; simpa using h0
      have e1 : (!t.toList.isEmpty) = false := by rw [Lib.toList_data, e0]; rfl
      have HD2 : Hid (dec s.data.toList = done) := Lib.hid (by rw [← HD.out, e0, dec_nil, List.append_nil])
      clear HD h0 e0 hlen
      go_wp2_with fail
      refine (Try.Builder_String_any w.heap.size w.heap.size _ _ HB.out hBs).mono ?_
      rintro e w2 ⟨rfl, hb2⟩
      have Hb2 := Lib.hid hb2
      clear hb2
      go_wp2
      go_ret
      refine ⟨?_, Hb.out.trans Hb2.out⟩
      rw [HD2.out]; rfl
    · have hpos : 0 < t.size := by omega
      have hlen' : (Lib.byteCells done).length + 1 ≤ 140737488355328 := by omega
      have hts : t.size ≤ 140737488351232 := by omega
      have e1 : (!t.toList.isEmpty) = true := by
        rw [Lib.toList_data, list_cons t hpos]; rfl
      clear hlen h0
      by_cases hA : 2 < t.size
      · have hA' : (2 : Int) < (t.size : Int) := by omega
        by_cases h37 : t[0] = 37
        · have e37 : ((t[0].toNat : Int) == 37) = true := (u8_eq37 _).2 h37
          have H37 := Lib.hid h37
          have hA1 : (1 : Int) < (t.size : Int) := by omega
          clear h37
          go_wp2_with fail
          go_quiet ((go_at_call 18; exact Calls.quiet_of_same (value_any _ _)))
          by_cases hh : 0 ≤ hv t[1] ∧ 0 ≤ hv t[2]
          · obtain ⟨h1, h2⟩ := hh
            have l1 := hv_le t[1]
            have l2 := hv_le t[2]
            have eor := or_join t[1] t[2] h1 h2
            have HD2 : Hid ((done ++ [join t[1] t[2]]) ++ dec (t.extract 3 t.size).data.toList = dec s.data.toList) := Lib.hid (by rw [← HD.out, dec_hex t hA H37.out h1 h2, List.append_assoc]; rfl)
            have HJ := Lib.hid (join_nat t[1] t[2] h1 h2)
            clear HD H37
            go_wp2_with fail
            have HB1 : Hid (Lib.IsBuilder 32 5 w.heap.size w.heap.size (Lib.byteCells done) (wr.drewN nq)) := Lib.hid HB.out
            have Hb1 : Hid (Below w.heap.size w (wr.drewN nq)) := Lib.hid (below_drewN' Hb.out nq)
            clear HB Hb
            refine (writeByte_any w.heap.size w.heap.size _ _ _ HB1.out hlen' hBs).mono ?_
            rintro e w2 ⟨rfl, hB2, hb2⟩
            have HB2 := Lib.hid hB2
            have Hb2 := Lib.hid hb2
            clear hB2 hb2
            go_wp2
            go_roundw
            case rel => exact ⟨t.extract 3 t.size, done ++ [join t[1] t[2]], rfl, by rw [size_ext, List.length_append]; simp; omega, HD2, by rw [byteCells_append]; exact .inr (by rw [← HJ.out] at HB2; exact HB2.out), Hb1.out.trans Hb2.out⟩
            case measure => simp [strSize]; omega
          · have HD2 : Hid ((done ++ [t[0]]) ++ dec (t.extract 1 t.size).data.toList = dec s.data.toList) := Lib.hid (by rw [← HD.out, dec_no t hpos (fun _ _ h1 h2 => hh ⟨h1, h2⟩), List.append_assoc]; rfl)
            have HB1 : Hid (Lib.IsBuilder 32 5 w.heap.size w.heap.size (Lib.byteCells done) (wr.drewN nq)) := Lib.hid HB.out
            have Hb1 : Hid (Below w.heap.size w (wr.drewN nq)) := Lib.hid (below_drewN' Hb.out nq)
            clear HB Hb HD H37
            by_cases h1 : 0 ≤ hv t[1]
            all_goals
              first | (have h2 : ¬ 0 ≤ hv t[2] := fun h => hh ⟨h1, h⟩) | skip
              clear hh
              go_wp2_with fail
              refine (writeByte_any w.heap.size w.heap.size _ _ _ HB1.out hlen' hBs).mono ?_
              rintro e w2 ⟨rfl, hB2, hb2⟩
              have HB2 := Lib.hid hB2
              have Hb2 := Lib.hid hb2
              clear hB2 hb2
              go_wp2
              go_roundw
              case rel => exact ⟨t.extract 1 t.size, done ++ [t[0]], rfl, by rw [size_ext, List.length_append]; simp; omega, HD2, by rw [byteCells_append]; exact .inr HB2.out, Hb1.out.trans Hb2.out⟩
              case measure => simp [strSize]; omega
        · have e37 : ((t[0].toNat : Int) == 37) = false := by
            rw [Bool.eq_false_iff]; exact fun h => h37 ((u8_eq37 _).1 h)
          have HD2 : Hid ((done ++ [t[0]]) ++ dec (t.extract 1 t.size).data.toList = dec s.data.toList) := Lib.hid (by rw [← HD.out, dec_no t hpos (fun _ h => absurd h h37), List.append_assoc]; rfl)
          clear HD h37
          go_wp2_with fail
          refine (writeByte_any w.heap.size w.heap.size _ _ _ HB.out hlen' hBs).mono ?_
          rintro e w2 ⟨rfl, hB2, hb2⟩
          have HB2 := Lib.hid hB2
          have Hb2 := Lib.hid hb2
          clear hB2 hb2
          go_wp2
          go_roundw
          case rel => exact ⟨t.extract 1 t.size, done ++ [t[0]], rfl, by rw [size_ext, List.length_append]; simp; omega, HD2, by rw [byteCells_append]; exact .inr HB2.out, Hb.out.trans Hb2.out⟩
          case measure => simp [strSize]; omega
      · have hA' : ¬ (2 : Int) < (t.size : Int) := by omega
        have HD2 : Hid ((done ++ [t[0]]) ++ dec (t.extract 1 t.size).data.toList = dec s.data.toList) := Lib.hid (by rw [← HD.out, dec_no t hpos (fun h => absurd h hA), List.append_assoc]; rfl)
        clear HD
        go_wp2_with fail
        refine (writeByte_any w.heap.size w.heap.size _ _ _ HB.out hlen' hBs).mono ?_
        rintro e w2 ⟨rfl, hB2, hb2⟩
        have HB2 := Lib.hid hB2
        have Hb2 := Lib.hid hb2
        clear hB2 hb2
        go_wp2
        go_roundw
        case rel => exact ⟨t.extract 1 t.size, done ++ [t[0]], rfl, by rw [size_ext, List.length_append]; simp; omega, HD2, by rw [byteCells_append]; exact .inr HB2.out, Hb.out.trans Hb2.out⟩
        case measure => simp [strSize]; omega
end Go.Proofs.Ytkiicejnoigmbaa
