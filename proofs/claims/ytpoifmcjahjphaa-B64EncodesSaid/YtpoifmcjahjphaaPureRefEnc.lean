/- What the reference of chapter 1 comes to: its letters, with and without line ends. -/
import Derived.Test.YtpoifmcjahjphaaPureB64
import Derived.Test.YtpoifmcjahjphaaPrx2
set_option linter.unusedVariables false
set_option linter.unusedSimpArgs false
namespace Go.Proofs.Ytpoifmcjahjphaa.Pure
open Go Go.RowKit Go.Proofs.Ytpoifmcjahjphaa.Pr Go.Proofs.YtpoifmcjahjphaaW.PrintWords Go.Proofs.YtpoifmcjahjphaaW.PrintLast Go.Proofs.YtpoifmcjahjphaaW.PrintMore

def numsOf (l : List UInt8) : List Int := l.map fun c => (c.toNat : Int)
theorem strOf_nums (l : List UInt8) : strOfNums (numsOf l) = B l := by
  unfold strOfNums numsOf B
  rw [List.map_map]
  congr 2
  conv => rhs; rw [← List.map_id l]
  apply List.map_congr_left
  intro c _
  simp
theorem numsOf_snoc (l : List UInt8) (c : UInt8) : numsOf l ++ [(c.toNat : Int)] = numsOf (l ++ [c]) := by simp [numsOf]
theorem numsOf_length (l : List UInt8) : (numsOf l).length = l.length := by simp [numsOf]
def bitN (l : List UInt8) (i : Nat) : Nat := (l.getD (i / 8) 0).toNat / 2 ^ (7 - i % 8) % 2
theorem bit_ref (l : List UInt8) (i : Nat) (hi : i ≤ 100000) : muslinref01_bit.f (B l) (i : Int) = some ((bitN l i : Nat) : Int) := by
  unfold muslinref01_bit.f
  have e8 : wrap64 (Int.tdiv (i : Int) 8) = ((i / 8 : Nat) : Int) := by rw [Int.tdiv_eq_ediv_of_nonneg (by omega), w64 (by omega) (by omega)]; omega
  have e7 : wrap64 (7 - Int.tmod (i : Int) 8) = ((7 - i % 8 : Nat) : Int) := by rw [Int.tmod_eq_emod_of_nonneg (by omega), w64 (by omega) (by omega)]; omega
  have eu : IntKind.u64.wrap ((7 - i % 8 : Nat) : Int) = ((7 - i % 8 : Nat) : Int) := by
    show ((7 - i % 8 : Nat) : Int) % 18446744073709551616 = _
    omega
  rw [e8, e7, eu, B_size]
  by_cases h : i / 8 < l.length
  · rw [if_neg (by omega), if_pos (by omega), if_pos (by omega), if_pos (by omega), B_bt]
    have hb := (l.getD (i / 8) 0).toNat_lt
    rw [w64 (by omega) (by omega)]
    unfold shr
    rw [Int.toNat_natCast, Nat.min_eq_left (show 7 - i % 8 ≤ IntKind.i64.bits by show _ ≤ 64; omega)]
    have e : ((l.getD (i / 8) 0).toNat : Int) / 2 ^ (7 - i % 8) = (((l.getD (i / 8) 0).toNat / 2 ^ (7 - i % 8) : Nat) : Int) := by
      rw [Int.natCast_ediv, Int.natCast_pow]; rfl
    rw [e, Int.tmod_eq_emod_of_nonneg (Int.natCast_nonneg _)]
    rfl
  · rw [if_pos (by omega)]
    have : l.getD (i / 8) 0 = 0 := by rw [List.getD_eq_getElem?_getD, List.getElem?_eq_none (by omega)]; rfl
    unfold bitN
    rw [this]
    simp
theorem bitN_lt (l : List UInt8) (i : Nat) : bitN l i < 2 := Nat.mod_lt _ (by decide)
def six (l : List UInt8) (i : Nat) : Nat := 32 * bitN l i + 16 * bitN l (i + 1) + 8 * bitN l (i + 2) + 4 * bitN l (i + 3) + 2 * bitN l (i + 4) + bitN l (i + 5)
theorem six_lt (l : List UInt8) (i : Nat) : six l i < 64 := by
  have h0 := bitN_lt l i
  have h1 := bitN_lt l (i + 1)
  have h2 := bitN_lt l (i + 2)
  have h3 := bitN_lt l (i + 3)
  have h4 := bitN_lt l (i + 4)
  have h5 := bitN_lt l (i + 5)
  unfold six; omega
theorem bt_letter : ∀ n : Fin 64, bt (⟨#[65, 66, 67, 68, 69, 70, 71, 72, 73, 74, 75, 76, 77, 78, 79, 80, 81, 82, 83, 84, 85, 86, 87, 88, 89, 90, 97, 98, 99, 100, 101, 102, 103, 104, 105, 106, 107, 108, 109, 110, 111, 112, 113, 114, 115, 116, 117, 118, 119, 120, 121, 122, 48, 49, 50, 51, 52, 53, 54, 55, 56, 57, 43, 47]⟩ : ByteArray) ((n.val : Nat) : Int) = ((letter n.val).toNat : Int) := by decide +kernel
theorem enc_l1_end (l : List UInt8) (o : List UInt8) (i : Nat) (hi : i ≤ 90000) (ho : o.length ≤ 100000) (r : ByteArray) (h : Ev (fun k => muslinref01_Encode.l0 k (B l) (numsOf (o ++ [letter (six l i)])) ((i + 6 : Nat) : Int)) r) :
    Ev (fun k => muslinref01_Encode.l1 k (B l) (numsOf o) (i : Int) ((six l i : Nat) : Int) ((5 + 1 : Nat) : Int)) r := by
  have h6 := six_lt l i
  refine Ev.succ ?_
  simp only [muslinref01_Encode.l1]
  refine Ev.ifn (by omega) (Ev.ifp (by omega) (Ev.ifp (by omega) (Ev.ifp (by rw [numsOf_length]; omega) ?_)))
  rw [bt_letter ⟨six l i, h6⟩, numsOf_snoc, show wrap64 ((i : Int) + 6) = ((i + 6 : Nat) : Int) from by rw [w64 (by omega) (by omega)]; omega]
  exact h
theorem enc_l1 (l : List UInt8) (o : List UInt8) (i : Nat) (hi : i ≤ 90000) (ho : o.length ≤ 100000) (r : ByteArray) (h : Ev (fun k => muslinref01_Encode.l0 k (B l) (numsOf (o ++ [letter (six l i)])) ((i + 6 : Nat) : Int)) r) :
    Ev (fun k => muslinref01_Encode.l1 k (B l) (numsOf o) (i : Int) 0 0) r := by
  have b0 := bitN_lt l i
  have b1 := bitN_lt l (i + 1)
  have b2 := bitN_lt l (i + 2)
  have b3 := bitN_lt l (i + 3)
  have b4 := bitN_lt l (i + 4)
  have b5 := bitN_lt l (i + 5)
  have step : ∀ (j n : Nat), j < 6 → n < 64 → Ev (fun k => muslinref01_Encode.l1 k (B l) (numsOf o) (i : Int) ((2 * n + bitN l (i + j) : Nat) : Int) ((j + 1 : Nat) : Int)) r → Ev (fun k => muslinref01_Encode.l1 k (B l) (numsOf o) (i : Int) (n : Int) (j : Int)) r := by
    intro j n hj hn hr
    clear b0 b1 b2 b3 b4 b5
    refine Ev.succ ?_
    simp only [muslinref01_Encode.l1]
    have e1 : wrap64 ((i : Int) + (j : Int)) = ((i + j : Nat) : Int) := by rw [w64 (by omega) (by omega)]; omega
    rw [e1]
    have hij : i + j ≤ 100000 := by omega
    refine Ev.ifp (by omega) (Ev.bindc (bit_ref l (i + j) hij) ?_)
    have bj := bitN_lt l (i + j)
    revert hr
    generalize bitN l (i + j) = x at *
    intro hr
    have e2 : wrap64 (wrap64 (2 * (n : Int)) + ((x : Nat) : Int)) = ((2 * n + x : Nat) : Int) := by rw [w64 (i := 2 * (n : Int)) (by omega) (by omega), w64 (by omega) (by omega)]; omega
    have e3 : wrap64 ((j : Int) + 1) = ((j + 1 : Nat) : Int) := by rw [w64 (by omega) (by omega)]; omega
    rw [e2, e3]
    exact hr
  have h0 : Ev (fun k => muslinref01_Encode.l1 k (B l) (numsOf o) (i : Int) ((0 : Nat) : Int) ((0 : Nat) : Int)) r := by
    refine step 0 0 (by decide) (by decide) ?_
    obtain ⟨n1, e1⟩ : ∃ n, n = 2 * 0 + bitN l (i + 0) := ⟨_, rfl⟩
    rw [← e1]
    refine step 1 n1 (by decide) (by rw [Nat.add_zero] at e1; omega) ?_
    obtain ⟨n2, e2⟩ : ∃ n, n = 2 * n1 + bitN l (i + 1) := ⟨_, rfl⟩
    rw [← e2]
    refine step 2 n2 (by decide) (by rw [Nat.add_zero] at e1; omega) ?_
    obtain ⟨n3, e3⟩ : ∃ n, n = 2 * n2 + bitN l (i + 2) := ⟨_, rfl⟩
    rw [← e3]
    refine step 3 n3 (by decide) (by rw [Nat.add_zero] at e1; omega) ?_
    obtain ⟨n4, e4⟩ : ∃ n, n = 2 * n3 + bitN l (i + 3) := ⟨_, rfl⟩
    rw [← e4]
    refine step 4 n4 (by decide) (by rw [Nat.add_zero] at e1; omega) ?_
    obtain ⟨n5, e5⟩ : ∃ n, n = 2 * n4 + bitN l (i + 4) := ⟨_, rfl⟩
    rw [← e5]
    refine step 5 n5 (by decide) (by rw [Nat.add_zero] at e1; omega) ?_
    have e : 2 * n5 + bitN l (i + 5) = six l i := by rw [Nat.add_zero] at e1; unfold six; omega
    rw [e]
    exact enc_l1_end l o i hi ho r h
  exact h0
def padded (o : List UInt8) : List UInt8 := o ++ List.replicate ((4 - o.length % 4) % 4) 61
theorem enc_l2 : ∀ (d : Nat) (o : List UInt8), o.length ≤ 200000 → (4 - o.length % 4) % 4 = d → Ev (fun k => muslinref01_Encode.l2 k (numsOf o)) (B (padded o)) := by
  intro d
  induction d with
  | zero =>
    intro o ho hd
    refine Ev.succ ?_
    simp only [muslinref01_Encode.l2]
    refine Ev.ifp (by rw [numsOf_length]; omega) (Ev.of ?_)
    unfold padded
    rw [strOf_nums, hd]; simp
  | succ d ih =>
    intro o ho hd
    refine Ev.succ ?_
    simp only [muslinref01_Encode.l2]
    refine Ev.ifn (by rw [numsOf_length]; omega) (Ev.ifp (by rw [numsOf_length]; omega) ?_)
    have h := ih (o ++ [61]) (by rw [List.length_append, List.length_singleton]; omega) (by rw [List.length_append, List.length_singleton]; omega)
    rw [show numsOf o ++ [61] = numsOf (o ++ [61]) from by simp [numsOf]]
    refine h.cast ?_
    unfold padded
    rw [hd, show (4 - (o ++ [(61 : UInt8)]).length % 4) % 4 = d from by rw [List.length_append, List.length_singleton]; omega]
    simp [List.replicate_succ]
theorem six_at (l : List UInt8) (q : Nat) (a b c : UInt8) (ha : l.getD (3 * q) 0 = a) (hb : l.getD (3 * q + 1) 0 = b) (hc : l.getD (3 * q + 2) 0 = c) :
    six l (24 * q) = a.toNat / 4 ∧ six l (24 * q + 6) = a.toNat % 4 * 16 + b.toNat / 16 ∧ six l (24 * q + 12) = b.toNat % 16 * 4 + c.toNat / 64 ∧ six l (24 * q + 18) = c.toNat % 64 := by
  have ba := a.toNat_lt
  have bb := b.toNat_lt
  have bc := c.toNat_lt
  have key : ∀ (x : UInt8) (p j : Nat), l.getD p 0 = x → j < 8 → bitN l (8 * p + j) = x.toNat / 2 ^ (7 - j) % 2 := by
    intro x p j hx hj
    unfold bitN
    rw [show (8 * p + j) / 8 = p from by omega, show (8 * p + j) % 8 = j from by omega, hx]
  have ka := fun j hj => key a (3 * q) j ha hj
  have kb := fun j hj => key b (3 * q + 1) j hb hj
  have kc := fun j hj => key c (3 * q + 2) j hc hj
  have a0 := ka 0 (by decide)
  have a1 := ka 1 (by decide)
  have a2 := ka 2 (by decide)
  have a3 := ka 3 (by decide)
  have a4 := ka 4 (by decide)
  have a5 := ka 5 (by decide)
  have a6 := ka 6 (by decide)
  have a7 := ka 7 (by decide)
  have b0 := kb 0 (by decide)
  have b1 := kb 1 (by decide)
  have b2 := kb 2 (by decide)
  have b3 := kb 3 (by decide)
  have b4 := kb 4 (by decide)
  have b5 := kb 5 (by decide)
  have b6 := kb 6 (by decide)
  have b7 := kb 7 (by decide)
  have c0 := kc 0 (by decide)
  have c1 := kc 1 (by decide)
  have c2 := kc 2 (by decide)
  have c3 := kc 3 (by decide)
  have c4 := kc 4 (by decide)
  have c5 := kc 5 (by decide)
  have c6 := kc 6 (by decide)
  have c7 := kc 7 (by decide)
  clear ka kb kc key
  simp only [Nat.reduceSub, Nat.reducePow] at a0 a1 a2 a3 a4 a5 a6 a7 b0 b1 b2 b3 b4 b5 b6 b7 c0 c1 c2 c3 c4 c5 c6 c7
  have n0 : 8 * (3 * q) = 24 * q := by omega
  have n1 : 8 * (3 * q + 1) = 24 * q + 8 := by omega
  have n2 : 8 * (3 * q + 2) = 24 * q + 16 := by omega
  rw [n0] at a0 a1 a2 a3 a4 a5 a6 a7
  rw [n1] at b0 b1 b2 b3 b4 b5 b6 b7
  rw [n2] at c0 c1 c2 c3 c4 c5 c6 c7
  simp only [Nat.add_assoc, Nat.reduceAdd, Nat.add_zero] at a0 a1 a2 a3 a4 a5 a6 a7 b0 b1 b2 b3 b4 b5 b6 b7 c0 c1 c2 c3 c4 c5 c6 c7
  unfold six
  simp only [Nat.add_assoc, Nat.reduceAdd]
  refine ⟨?_, ?_, ?_, ?_⟩
  · rw [a0, a1, a2, a3, a4, a5]; clear a0 a1 a2 a3 a4 a5 a6 a7 b0 b1 b2 b3 b4 b5 b6 b7 c0 c1 c2 c3 c4 c5 c6 c7; omega
  · rw [a6, a7, b0, b1, b2, b3]; clear a0 a1 a2 a3 a4 a5 a6 a7 b0 b1 b2 b3 b4 b5 b6 b7 c0 c1 c2 c3 c4 c5 c6 c7; omega
  · rw [b4, b5, b6, b7, c0, c1]; clear a0 a1 a2 a3 a4 a5 a6 a7 b0 b1 b2 b3 b4 b5 b6 b7 c0 c1 c2 c3 c4 c5 c6 c7; omega
  · rw [c2, c3, c4, c5, c6, c7]; clear a0 a1 a2 a3 a4 a5 a6 a7 b0 b1 b2 b3 b4 b5 b6 b7 c0 c1 c2 c3 c4 c5 c6 c7; omega
theorem enc_l0_go (l o : List UInt8) (i : Nat) (hl : l.length ≤ 10000) (hi : i < 8 * l.length) (ho : o.length ≤ 100000) (r : ByteArray) (h : Ev (fun k => muslinref01_Encode.l0 k (B l) (numsOf (o ++ [letter (six l i)])) ((i + 6 : Nat) : Int)) r) :
    Ev (fun k => muslinref01_Encode.l0 k (B l) (numsOf o) (i : Int)) r := by
  refine Ev.succ ?_
  simp only [muslinref01_Encode.l0]
  exact Ev.ifp (by rw [B_size, w64 (by omega) (by omega)]; omega) (enc_l1 l o i (by omega) ho r h)
theorem enc_l0_end (l o : List UInt8) (i : Nat) (hl : l.length ≤ 10000) (hi : 8 * l.length ≤ i) (ho : o.length ≤ 100000) :
    Ev (fun k => muslinref01_Encode.l0 k (B l) (numsOf o) (i : Int)) (B (padded o)) := by
  refine Ev.succ ?_
  simp only [muslinref01_Encode.l0]
  exact Ev.ifn (by rw [B_size, w64 (by omega) (by omega)]; omega) (enc_l2 _ o (by omega) rfl)
theorem getD_drop (l : List UInt8) (p j : Nat) : l.getD (p + j) 0 = (l.drop p).getD j 0 := by
  rw [List.getD_eq_getElem?_getD, List.getD_eq_getElem?_getD, List.getElem?_drop]
theorem enc_l0 (l : List UInt8) (hl : l.length ≤ 10000) : ∀ (d q : Nat) (o r : List UInt8), r.length = d → l.drop (3 * q) = r → 3 * q ≤ l.length → o.length + 2 * r.length ≤ 50000 →
    Ev (fun k => muslinref01_Encode.l0 k (B l) (numsOf o) ((24 * q : Nat) : Int)) (B (padded (o ++ (numE r).map letter))) := by
  intro d
  induction d using Nat.strongRecOn with
  | _ d ih =>
  intro q o r hd hr hq ho
  have hlen : l.length = 3 * q + r.length := by rw [← hr, List.length_drop]; omega
  have g0 : l.getD (3 * q) 0 = r.getD 0 0 := by rw [← hr, ← getD_drop, Nat.add_zero]
  have g1 : l.getD (3 * q + 1) 0 = r.getD 1 0 := by rw [← hr, ← getD_drop]
  have g2 : l.getD (3 * q + 2) 0 = r.getD 2 0 := by rw [← hr, ← getD_drop]
  obtain ⟨s1, s2, s3, s4⟩ := six_at l q _ _ _ g0 g1 g2
  match r, hd with
  | [], _ =>
    have := enc_l0_end l o (24 * q) hl (by simp at hlen; omega) (by omega)
    simpa [numE] using this
  | [a], _ =>
    simp only [List.length_singleton] at hlen ho
    refine enc_l0_go l o (24 * q) hl (by omega) (by omega) _ (enc_l0_go l _ (24 * q + 6) hl (by omega) (by rw [List.length_append, List.length_singleton]; omega) _ ((enc_l0_end l _ (24 * q + 6 + 6) hl (by omega) (by simp only [List.length_append, List.length_singleton]; omega)).cast ?_))
    rw [s1, s2]
    congr 2
    simp [numE]
  | [a, b], _ =>
    simp only [List.length_cons, List.length_nil] at hlen ho
    refine enc_l0_go l o (24 * q) hl (by omega) (by omega) _ (enc_l0_go l _ (24 * q + 6) hl (by omega) (by rw [List.length_append, List.length_singleton]; omega) _ (enc_l0_go l _ (24 * q + 6 + 6) hl (by omega) (by simp only [List.length_append, List.length_singleton]; omega) _ ((enc_l0_end l _ (24 * q + 6 + 6 + 6) hl (by omega) (by simp only [List.length_append, List.length_singleton]; omega)).cast ?_)))
    rw [s1, s2, show 24 * q + 6 + 6 = 24 * q + 12 from rfl, s3]
    congr 2
    simp [numE]
  | a :: b :: c :: r', hd =>
    simp only [List.length_cons] at hlen ho hd
    have hr' : l.drop (3 * (q + 1)) = r' := by
      have := congrArg (List.drop 3) hr
      rw [List.drop_drop] at this
      simpa [Nat.mul_add] using this
    have h := ih r'.length (by omega) (q + 1) (((o ++ [letter (a.toNat / 4)]) ++ [letter (a.toNat % 4 * 16 + b.toNat / 16)]) ++ [letter (b.toNat % 16 * 4 + c.toNat / 64)] ++ [letter (c.toNat % 64)]) r' rfl hr' (by omega) (by simp only [List.length_append, List.length_singleton]; omega)
    refine enc_l0_go l o (24 * q) hl (by omega) (by omega) _ (enc_l0_go l _ (24 * q + 6) hl (by omega) (by rw [List.length_append, List.length_singleton]; omega) _ (enc_l0_go l _ (24 * q + 6 + 6) hl (by omega) (by simp only [List.length_append, List.length_singleton]; omega) _ (enc_l0_go l _ (24 * q + 6 + 6 + 6) hl (by omega) (by simp only [List.length_append, List.length_singleton]; omega) _ ?_)))
    rw [s1, s2, show 24 * q + 6 + 6 = 24 * q + 12 from rfl, s3, show 24 * q + 12 + 6 = 24 * q + 18 from rfl, s4, show 24 * q + 18 + 6 = 24 * (q + 1) from by omega]
    refine h.cast ?_
    congr 2
    simp [numE]
theorem enc_ref (l : List UInt8) (hl : l.length ≤ 10000) : Ev (fun k => muslinref01_Encode.f k (B l)) (B (encB l)) := by
  unfold muslinref01_Encode.f
  have h := enc_l0 l hl l.length 0 [] l rfl rfl (by omega) (by simp; omega)
  refine Ev.cast h ?_
  rw [List.nil_append, encB_nums]
  unfold padded
  rw [List.length_map]
/-- What is written from place i on. -/
def refW (m : Nat) : Nat → List UInt8 → List UInt8
  | _, [] => []
  | i, c :: r => (if 0 < i ∧ i % m = 0 then [13, 10] else []) ++ c :: refW m (i + 1) r
theorem wrap_ref_l0 (t : List UInt8) (m : Nat) (ht : t.length ≤ 100000) (hm : 1 ≤ m) (hm2 : m ≤ 9223372036854775807) : ∀ (d i : Nat) (o : List UInt8), t.length - i = d → i ≤ t.length → o.length ≤ 3 * i →
    Ev (fun k => muslinref01_Wrap.l0 k (B t) (m : Int) (numsOf o) (i : Int)) (B (o ++ refW m i (t.drop i))) := by
  intro d
  induction d with
  | zero =>
    intro i o hd hi ho
    refine Ev.succ ?_
    simp only [muslinref01_Wrap.l0]
    refine Ev.ifn (by rw [B_size]; omega) (Ev.of ?_)
    rw [strOf_nums, List.drop_eq_nil_of_le (by omega)]
    simp [refW]
  | succ d ih =>
    intro i o hd hi ho
    have hlt : i < t.length := by omega
    refine Ev.succ ?_
    simp only [muslinref01_Wrap.l0]
    have ei : wrap64 ((i : Int) + 1) = ((i + 1 : Nat) : Int) := by rw [w64 (by omega) (by omega)]; omega
    rw [B_bt, drop_cons_get t i hlt, ei]
    have hno : ¬ (0 < i ∧ i % m = 0) → Ev (fun k => if 0 ≤ (i : Int) then (if (numsOf o).length < 140737488355328 then muslinref01_Wrap.l0 k (B t) (m : Int) (numsOf o ++ [((t.getD i 0).toNat : Int)]) ((i + 1 : Nat) : Int) else none) else none) (B (o ++ refW m i (t.getD i 0 :: t.drop (i + 1)))) := by
      intro hn
      refine Ev.ifp (by omega) (Ev.ifp (by rw [numsOf_length]; omega) ?_)
      rw [numsOf_snoc]
      refine (ih (i + 1) (o ++ [t.getD i 0]) (by omega) (by omega) (by rw [List.length_append, List.length_singleton]; omega)).cast ?_
      rw [show refW m i (t.getD i 0 :: t.drop (i + 1)) = (if 0 < i ∧ i % m = 0 then [13, 10] else []) ++ t.getD i 0 :: refW m (i + 1) (t.drop (i + 1)) from rfl, if_neg hn]
      simp
    refine Ev.ifp (by rw [B_size]; omega) ?_
    by_cases h0 : 0 < i
    · refine Ev.ifp (by omega) (Ev.ifn (by omega) ?_)
      have em : Int.tmod (i : Int) (m : Int) = ((i % m : Nat) : Int) := by rw [Int.tmod_eq_emod_of_nonneg (by omega)]; rfl
      rw [em]
      by_cases h1 : i % m = 0
      · refine Ev.ifp (by omega) (Ev.ifp (by rw [numsOf_length]; omega) ?_)
        simp only [Option.bind_some]
        have eb : numsOf o ++ bytesOf (⟨#[13, 10]⟩ : ByteArray) = numsOf (o ++ [13, 10]) := by
          unfold numsOf bytesOf
          rw [List.map_append]
        rw [eb]
        refine Ev.ifp (by omega) (Ev.ifp (by rw [numsOf_length, List.length_append]; simp only [List.length_cons, List.length_nil]; omega) ?_)
        rw [numsOf_snoc]
        refine (ih (i + 1) (o ++ [13, 10] ++ [t.getD i 0]) (by omega) (by omega) (by simp; omega)).cast ?_
        rw [show refW m i (t.getD i 0 :: t.drop (i + 1)) = (if 0 < i ∧ i % m = 0 then [13, 10] else []) ++ t.getD i 0 :: refW m (i + 1) (t.drop (i + 1)) from rfl, if_pos ⟨h0, h1⟩]
        simp
      · exact Ev.ifn (by omega) (hno (fun h => h1 h.2))
    · exact Ev.ifn (by omega) (hno (fun h => h0 h.1))
theorem refW_run (m : Nat) : ∀ (s : List UInt8) (i : Nat) (r : List UInt8), (∀ j, j < s.length → ¬ (0 < i + j ∧ (i + j) % m = 0)) → refW m i (s ++ r) = s ++ refW m (i + s.length) r
  | [], i, r, _ => by simp
  | c :: s, i, r, h => by
    have h0 := h 0 (by simp)
    have ih := refW_run m s (i + 1) r (fun j hj => by have := h (j + 1) (by simp; omega); rwa [show i + 1 + j = i + (j + 1) from by omega])
    show (if 0 < i ∧ i % m = 0 then [13, 10] else []) ++ c :: refW m (i + 1) (s ++ r) = _
    rw [if_neg (by simpa using h0), ih]
    simp [Nat.add_comm, Nat.add_left_comm]
theorem refW_wrap (m : Nat) (hm : 1 ≤ m) : ∀ (f : Nat) (r : List UInt8) (a : Nat), r.length ≤ f → refW m (a * m) r = (if 0 < a ∧ r ≠ [] then [13, 10] else []) ++ wrapL m f r := by
  intro f
  induction f with
  | zero =>
    intro r a h
    obtain rfl : r = [] := List.eq_nil_of_length_eq_zero (by omega)
    simp [refW, wrapL]
  | succ f ih =>
    intro r a h
    match r, h with
    | [], _ =>
      rw [show wrapL m (f + 1) [] = [] from by show (if _ then _ else _) = _; rw [if_neg (by simp)]]
      simp [refW]
    | c :: r', h =>
      have ha : (0 < a * m ∧ a * m % m = 0) ↔ (0 < a ∧ (c :: r') ≠ []) := by
        constructor
        · rintro ⟨h1, _⟩
          exact ⟨by rcases Nat.eq_zero_or_pos a with h | h; · rw [h, Nat.zero_mul] at h1; omega
                    · exact h, by simp⟩
        · rintro ⟨h1, _⟩
          exact ⟨Nat.mul_pos h1 hm, Nat.mul_mod_left a m⟩
      have hrun : ∀ s : List UInt8, s.length ≤ m - 1 → ∀ j, j < s.length → ¬ (0 < a * m + 1 + j ∧ (a * m + 1 + j) % m = 0) := by
        rintro s hs j hj ⟨_, h2⟩
        rw [Nat.add_assoc, Nat.add_comm, Nat.add_mul_mod_self_right, Nat.mod_eq_of_lt (by omega)] at h2
        omega
      show (if 0 < a * m ∧ a * m % m = 0 then [13, 10] else []) ++ c :: refW m (a * m + 1) r' = _
      have e0 : (if 0 < a * m ∧ a * m % m = 0 then [13, 10] else []) = (if 0 < a ∧ (c :: r') ≠ [] then [13, 10] else ([] : List UInt8)) := by
        by_cases hc : 0 < a * m ∧ a * m % m = 0
        · rw [if_pos hc, if_pos (ha.1 hc)]
        · rw [if_neg hc, if_neg (fun h => hc (ha.2 h))]
      rw [e0]
      congr 1
      by_cases hlt : m < (c :: r').length
      · rw [show wrapL m (f + 1) (c :: r') = (c :: r').take m ++ 13 :: 10 :: wrapL m f ((c :: r').drop m) from by show (if _ then _ else _) = _; rw [if_pos hlt]]
        obtain ⟨n, rfl⟩ : ∃ n, m = n + 1 := ⟨m - 1, by omega⟩
        have hl : (r'.take n).length = n := by rw [List.length_take]; simp at hlt; omega
        conv => lhs; rw [← List.take_append_drop n r']
        rw [refW_run (n + 1) (r'.take n) (a * (n + 1) + 1) (r'.drop n) (hrun _ (by omega)), hl, show a * (n + 1) + 1 + n = (a + 1) * (n + 1) from by rw [Nat.succ_mul]; omega,
          ih (r'.drop n) (a + 1) (by rw [List.length_drop]; simp at h; omega)]
        rw [if_pos ⟨by omega, by intro he; have := congrArg List.length he; simp at this hlt; omega⟩]
        simp
      · rw [show wrapL m (f + 1) (c :: r') = c :: r' from by show (if _ then _ else _) = _; rw [if_neg hlt]]
        have := refW_run m r' (a * m + 1) [] (hrun _ (by simp at hlt; omega))
        rw [List.append_nil] at this
        rw [this]
        simp [refW]
theorem wrap_ref (l : List UInt8) (w : Int) (hl : l.length ≤ 6000) (hw : w ≤ 9223372036854775807) : Ev (fun k => muslinref01_Wrap.f k (B l) w) (B (wrapL (wid w) 10000 (encB l))) := by
  unfold muslinref01_Wrap.f
  refine Ev.bind (enc_ref l (by omega)) ?_
  obtain ⟨h1, h2⟩ := wid_pos w
  have h3 := encB_len l
  have h := wrap_ref_l0 (encB l) (wid w) (by omega) h1 (by unfold wid mx; split <;> omega) (encB l).length 0 [] rfl (by omega) (by simp)
  rw [h2] at h
  refine Ev.cast h ?_
  have e := refW_wrap (wid w) h1 10000 (encB l) 0 (by omega)
  rw [Nat.zero_mul] at e
  rw [List.drop_zero, e]
  simp
end Go.Proofs.Ytpoifmcjahjphaa.Pure
