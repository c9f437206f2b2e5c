/- Base64 over lists: what is written, what is read, and how they are to each other. -/
import Derived.Test.YtpoifmcjahjphaaEnc2
import Derived.Lib.CutLaws
import Derived.Lib.IndexBytes
set_option linter.unusedVariables false
set_option linter.unusedSimpArgs false
namespace Go.Proofs.Ytpoifmcjahjphaa
open Go
/-- The numbers of the letters of some bytes. -/
def numE : List UInt8 → List Nat
  | [] => []
  | [a] => [a.toNat / 4, a.toNat % 4 * 16]
  | [a, b] => [a.toNat / 4, a.toNat % 4 * 16 + b.toNat / 16, b.toNat % 16 * 4]
  | a :: b :: c :: r => a.toNat / 4 :: (a.toNat % 4 * 16 + b.toNat / 16) :: (b.toNat % 16 * 4 + c.toNat / 64) :: c.toNat % 64 :: numE r
def encStep (s : List Nat × Nat × Nat) (c : UInt8) : List Nat × Nat × Nat := (s.1 ++ sends 6 (nextAll 8 s.2.1 c.toNat) 20 (s.2.2 + 8), nextAll 8 s.2.1 c.toNat, (s.2.2 + 8) % 6)
theorem sends6_8 (A : Nat) : sends 6 A 20 8 = [A / 4 % 64] := rfl
theorem sends6_10 (A : Nat) : sends 6 A 20 10 = [A / 16 % 64] := rfl
theorem sends6_12 (A : Nat) : sends 6 A 20 12 = [A / 64 % 64, A % 64] := by
  show [A / 64 % 64, A / 1 % 64] = _
  rw [Nat.div_one]
theorem nextAll8 (A n : Nat) : nextAll 8 A n = (A * 256 + n) % 65536 := rfl
theorem nextAll6 (A n : Nat) : nextAll 6 A n = (A * 64 + n) % 65536 := rfl
def encEnd (st : List Nat × Nat × Nat) : List Nat := if 0 < st.2.2 then st.1 ++ sends 6 (nextAll 8 st.2.1 0) 20 (st.2.2 + 8) else st.1
theorem enc_fold : ∀ (n : Nat) (l : List UInt8), l.length = n → ∀ (o : List Nat) (A : Nat), A < 65536 → (encEnd (l.foldl encStep (o, A, 0))).take (o.length + (8 * l.length + 5) / 6) = o ++ numE l := by
  intro n
  induction n using Nat.strongRecOn with
  | _ n ih =>
  intro l hl o A hA
  match l, hl with
  | [], _ => simp [encEnd, numE]
  | [a], _ =>
    have ha := a.toNat_lt
    have e1 : nextAll 8 A a.toNat / 4 % 64 = a.toNat / 4 := by rw [nextAll8]; omega
    have e2 : nextAll 8 (nextAll 8 A a.toNat) 0 / 16 % 64 = a.toNat % 4 * 16 := by rw [nextAll8, nextAll8]; omega
    rw [show encEnd ([a].foldl encStep (o, A, 0)) = (o ++ sends 6 (nextAll 8 A a.toNat) 20 8) ++ sends 6 (nextAll 8 (nextAll 8 A a.toNat) 0) 20 10 from by simp only [List.foldl_cons, List.foldl_nil, encStep, encEnd, Nat.zero_add, Nat.reduceAdd, Nat.reduceMod]; rw [if_pos (by decide)]]
    rw [show o.length + (8 * [a].length + 5) / 6 = o.length + 2 from by simp]
    rw [sends6_8, sends6_10, e1, e2, List.take_of_length_le (by simp)]
    simp [numE]
  | [a, b], _ =>
    have ha := a.toNat_lt
    have hb := b.toNat_lt
    have e1 : nextAll 8 A a.toNat / 4 % 64 = a.toNat / 4 := by rw [nextAll8]; omega
    have e2 : nextAll 8 (nextAll 8 A a.toNat) b.toNat / 16 % 64 = a.toNat % 4 * 16 + b.toNat / 16 := by rw [nextAll8, nextAll8]; omega
    have e3 : nextAll 8 (nextAll 8 (nextAll 8 A a.toNat) b.toNat) 0 / 64 % 64 = b.toNat % 16 * 4 := by rw [nextAll8, nextAll8, nextAll8]; omega
    rw [show encEnd ([a, b].foldl encStep (o, A, 0)) = ((o ++ sends 6 (nextAll 8 A a.toNat) 20 8) ++ sends 6 (nextAll 8 (nextAll 8 A a.toNat) b.toNat) 20 10) ++ sends 6 (nextAll 8 (nextAll 8 (nextAll 8 A a.toNat) b.toNat) 0) 20 12 from by simp only [List.foldl_cons, List.foldl_nil, encStep, encEnd, Nat.zero_add, Nat.reduceAdd, Nat.reduceMod]; rw [if_pos (by decide)]]
    rw [show o.length + (8 * [a, b].length + 5) / 6 = o.length + 3 from by simp]
    rw [sends6_8, sends6_10, sends6_12, e1, e2, e3]
    rw [show (o ++ [a.toNat / 4]) ++ [a.toNat % 4 * 16 + b.toNat / 16] ++ [b.toNat % 16 * 4, nextAll 8 (nextAll 8 (nextAll 8 A a.toNat) b.toNat) 0 % 64] = (o ++ numE [a, b]) ++ [nextAll 8 (nextAll 8 (nextAll 8 A a.toNat) b.toNat) 0 % 64] from by simp [numE], List.take_append_of_le_length (by simp [numE]), List.take_of_length_le (by simp [numE])]
  | a :: b :: c :: r, hl =>
    have ha := a.toNat_lt
    have hb := b.toNat_lt
    have hc := c.toNat_lt
    have e1 : nextAll 8 A a.toNat / 4 % 64 = a.toNat / 4 := by rw [nextAll8]; omega
    have e2 : nextAll 8 (nextAll 8 A a.toNat) b.toNat / 16 % 64 = a.toNat % 4 * 16 + b.toNat / 16 := by rw [nextAll8, nextAll8]; omega
    have e3 : nextAll 8 (nextAll 8 (nextAll 8 A a.toNat) b.toNat) c.toNat / 64 % 64 = b.toNat % 16 * 4 + c.toNat / 64 := by rw [nextAll8, nextAll8, nextAll8]; omega
    have e4 : nextAll 8 (nextAll 8 (nextAll 8 A a.toNat) b.toNat) c.toNat % 64 = c.toNat % 64 := by rw [nextAll8, nextAll8, nextAll8]; omega
    rw [show (a :: b :: c :: r).foldl encStep (o, A, 0) = r.foldl encStep (((o ++ sends 6 (nextAll 8 A a.toNat) 20 8) ++ sends 6 (nextAll 8 (nextAll 8 A a.toNat) b.toNat) 20 10) ++ sends 6 (nextAll 8 (nextAll 8 (nextAll 8 A a.toNat) b.toNat) c.toNat) 20 12, nextAll 8 (nextAll 8 (nextAll 8 A a.toNat) b.toNat) c.toNat, 0) from by simp only [List.foldl_cons, encStep, Nat.zero_add, Nat.reduceAdd, Nat.reduceMod]]
    show (encEnd (r.foldl encStep (((o ++ sends 6 (nextAll 8 A a.toNat) 20 8) ++ sends 6 (nextAll 8 (nextAll 8 A a.toNat) b.toNat) 20 10) ++ sends 6 (nextAll 8 (nextAll 8 (nextAll 8 A a.toNat) b.toNat) c.toNat) 20 12, nextAll 8 (nextAll 8 (nextAll 8 A a.toNat) b.toNat) c.toNat, 0))).take _ = _
    rw [sends6_8, sends6_10, sends6_12, e1, e2, e3, e4]
    have h := ih r.length (by simp at hl; omega) r rfl (((o ++ [a.toNat / 4]) ++ [a.toNat % 4 * 16 + b.toNat / 16]) ++ [b.toNat % 16 * 4 + c.toNat / 64, c.toNat % 64]) (nextAll 8 (nextAll 8 (nextAll 8 A a.toNat) b.toNat) c.toNat) (Nat.mod_lt _ (by decide))
    have e5 : o.length + (8 * (a :: b :: c :: r).length + 5) / 6 = (((o ++ [a.toNat / 4]) ++ [a.toNat % 4 * 16 + b.toNat / 16]) ++ [b.toNat % 16 * 4 + c.toNat / 64, c.toNat % 64]).length + (8 * r.length + 5) / 6 := by simp; omega
    rw [e5, h]
    simp [numE]
theorem encT_nums (l : List UInt8) : encT l = (numE l).map letter := by
  have h := enc_fold l.length l rfl [] 0 (by decide)
  simp only [List.length_nil, Nat.zero_add, List.nil_append] at h
  rw [← h, List.map_take]
  rfl
theorem nums_len (l : List UInt8) : (numE l).length = (8 * l.length + 5) / 6 := by
  rw [← encT_len, encT_nums, List.length_map]
theorem encB_nums (l : List UInt8) : encB l = (numE l).map letter ++ List.replicate ((4 - (numE l).length % 4) % 4) 61 := by
  unfold encB; rw [encT_nums, List.length_map]
theorem nums_lt : ∀ (n : Nat) (l : List UInt8), l.length = n → ∀ x ∈ numE l, x < 64 := by
  intro n
  induction n using Nat.strongRecOn with
  | _ n ih =>
  intro l hl
  match l, hl with
  | [], _ => simp [numE]
  | [a], _ => have ha := a.toNat_lt; intro x hx; simp [numE] at hx; omega
  | [a, b], _ => have ha := a.toNat_lt; have hb := b.toNat_lt; intro x hx; simp [numE] at hx; omega
  | a :: b :: c :: r, hl =>
    have ha := a.toNat_lt; have hb := b.toNat_lt; have hc := c.toNat_lt
    intro x hx
    simp only [numE, List.mem_cons] at hx
    rcases hx with h | h | h | h | h
    · omega
    · omega
    · omega
    · omega
    · exact ih r.length (by simp at hl; omega) r rfl x h
theorem nums_append : ∀ (n : Nat) (s t : List UInt8), s.length = n → s.length % 3 = 0 → numE (s ++ t) = numE s ++ numE t := by
  intro n
  induction n using Nat.strongRecOn with
  | _ n ih =>
  intro s t hl h3
  match s, hl with
  | [], _ => simp [numE]
  | [a], _ => simp at h3
  | [a, b], _ => simp at h3
  | a :: b :: c :: r, hl =>
    show _ :: _ :: _ :: _ :: numE (r ++ t) = _ :: _ :: _ :: _ :: (numE r ++ numE t)
    rw [ih r.length (by simp at hl; omega) r t rfl (by simp at h3; omega)]
theorem encB_len (l : List UInt8) : (encB l).length = (l.length + 2) / 3 * 4 := by
  rw [encB_nums, List.length_append, List.length_map, List.length_replicate, nums_len]; omega
theorem encB_append (s t : List UInt8) (h : s.length % 3 = 0) : encB (s ++ t) = encB s ++ encB t := by
  have h1 := nums_len s
  have e : (4 - (numE s).length % 4) % 4 = 0 := by omega
  rw [encB_nums, encB_nums, encB_nums, nums_append _ s t rfl h, List.length_append]
  have e2 : (4 - ((numE s).length + (numE t).length) % 4) % 4 = (4 - (numE t).length % 4) % 4 := by omega
  rw [e, e2]
  simp

/-- A letter's number. -/
def placeO (c : UInt8) : Option Nat := if 0 ≤ Lib.indexByte letters c then some (Lib.indexByte letters c).toNat else none
theorem u8_all {P : UInt8 → Prop} (h : ∀ n : Fin 256, P (UInt8.ofNat n.val)) (c : UInt8) : P c := by
  have := h ⟨c.toNat, c.toNat_lt⟩
  simpa using this
theorem placeO_letter : ∀ n : Fin 64, placeO (letter n.val) = some n.val := by decide +kernel
theorem placeO_lt : ∀ c : UInt8, ∀ p, placeO c = some p → p < 64 := u8_all (by decide +kernel)
theorem placeO_eq : placeO 61 = none := by decide +kernel
def decStep (s : List Nat × Nat × Nat) (p : Nat) : List Nat × Nat × Nat := (s.1 ++ sends 8 (nextAll 6 s.2.1 p) 20 (s.2.2 + 6), nextAll 6 s.2.1 p, (s.2.2 + 6) % 8)
def decSt (ps : List Nat) : List Nat × Nat × Nat := ps.foldl decStep ([], 0, 0)
/-- What is ahead of the first sign of the end. -/
def ahead (l : List UInt8) : List UInt8 := l.takeWhile (· != 61)
def core (l : List UInt8) : List Nat := (ahead l).filterMap placeO
def decB (l : List UInt8) : List UInt8 := (decSt (core l)).1.map UInt8.ofNat
theorem sends8_6 (A : Nat) : sends 8 A 20 6 = [] := rfl
theorem sends8_8 (A : Nat) : sends 8 A 20 8 = [A % 256] := by
  show [A / 1 % 256] = _
  rw [Nat.div_one]
theorem sends8_10 (A : Nat) : sends 8 A 20 10 = [A / 4 % 256] := rfl
theorem sends8_12 (A : Nat) : sends 8 A 20 12 = [A / 16 % 256] := rfl
theorem dec_fold : ∀ (n : Nat) (l : List UInt8), l.length = n → ∀ (o : List Nat) (A : Nat), A < 65536 → ((numE l).foldl decStep (o, A, 0)).1 = o ++ l.map UInt8.toNat := by
  intro n
  induction n using Nat.strongRecOn with
  | _ n ih =>
  intro l hl o A hA
  match l, hl with
  | [], _ => simp [numE]
  | [a], _ =>
    have ha := a.toNat_lt
    show (o ++ sends 8 (nextAll 6 A (a.toNat / 4)) 20 6) ++ sends 8 (nextAll 6 (nextAll 6 A (a.toNat / 4)) (a.toNat % 4 * 16)) 20 12 = _
    rw [sends8_6, sends8_12, show nextAll 6 (nextAll 6 A (a.toNat / 4)) (a.toNat % 4 * 16) / 16 % 256 = a.toNat from by rw [nextAll6, nextAll6]; omega]
    simp
  | [a, b], _ =>
    have ha := a.toNat_lt
    have hb := b.toNat_lt
    simp only [numE, List.foldl_cons, List.foldl_nil, decStep, Nat.zero_add, Nat.reduceAdd, Nat.reduceMod]
    show ((o ++ sends 8 (nextAll 6 A (a.toNat / 4)) 20 6) ++ sends 8 (nextAll 6 (nextAll 6 A (a.toNat / 4)) (a.toNat % 4 * 16 + b.toNat / 16)) 20 12) ++ sends 8 (nextAll 6 (nextAll 6 (nextAll 6 A (a.toNat / 4)) (a.toNat % 4 * 16 + b.toNat / 16)) (b.toNat % 16 * 4)) 20 10 = _
    rw [sends8_6, sends8_12, sends8_10, show nextAll 6 (nextAll 6 A (a.toNat / 4)) (a.toNat % 4 * 16 + b.toNat / 16) / 16 % 256 = a.toNat from by rw [nextAll6, nextAll6]; omega,
      show nextAll 6 (nextAll 6 (nextAll 6 A (a.toNat / 4)) (a.toNat % 4 * 16 + b.toNat / 16)) (b.toNat % 16 * 4) / 4 % 256 = b.toNat from by rw [nextAll6, nextAll6, nextAll6]; omega]
    simp
  | a :: b :: c :: r, hl =>
    have ha := a.toNat_lt
    have hb := b.toNat_lt
    have hc := c.toNat_lt
    simp only [numE, List.foldl_cons, decStep, Nat.zero_add, Nat.reduceAdd, Nat.reduceMod]
    show ((numE r).foldl decStep ((((o ++ sends 8 (nextAll 6 A (a.toNat / 4)) 20 6) ++ sends 8 (nextAll 6 (nextAll 6 A (a.toNat / 4)) (a.toNat % 4 * 16 + b.toNat / 16)) 20 12) ++ sends 8 (nextAll 6 (nextAll 6 (nextAll 6 A (a.toNat / 4)) (a.toNat % 4 * 16 + b.toNat / 16)) (b.toNat % 16 * 4 + c.toNat / 64)) 20 10) ++ sends 8 (nextAll 6 (nextAll 6 (nextAll 6 (nextAll 6 A (a.toNat / 4)) (a.toNat % 4 * 16 + b.toNat / 16)) (b.toNat % 16 * 4 + c.toNat / 64)) (c.toNat % 64)) 20 8, _, 0)).1 = _
    rw [sends8_6, sends8_12, sends8_10, sends8_8, show nextAll 6 (nextAll 6 A (a.toNat / 4)) (a.toNat % 4 * 16 + b.toNat / 16) / 16 % 256 = a.toNat from by rw [nextAll6, nextAll6]; omega,
      show nextAll 6 (nextAll 6 (nextAll 6 A (a.toNat / 4)) (a.toNat % 4 * 16 + b.toNat / 16)) (b.toNat % 16 * 4 + c.toNat / 64) / 4 % 256 = b.toNat from by rw [nextAll6, nextAll6, nextAll6]; omega,
      show nextAll 6 (nextAll 6 (nextAll 6 (nextAll 6 A (a.toNat / 4)) (a.toNat % 4 * 16 + b.toNat / 16)) (b.toNat % 16 * 4 + c.toNat / 64)) (c.toNat % 64) % 256 = c.toNat from by rw [nextAll6, nextAll6, nextAll6, nextAll6]; omega,
      ih r.length (by simp at hl; omega) r rfl _ (nextAll 6 _ _) (Nat.mod_lt _ (by decide))]
    simp
theorem filterMap_letters (ns : List Nat) (h : ∀ x ∈ ns, x < 64) : (ns.map letter).filterMap placeO = ns := by
  induction ns with
  | nil => rfl
  | cons n ns ih =>
    have hn := h n (by simp)
    rw [List.map_cons, List.filterMap_cons, placeO_letter ⟨n, hn⟩, ih (fun x hx => h x (by simp [hx]))]
theorem letter_ne : ∀ n : Fin 64, (letter n.val != 61) = true := by decide +kernel
theorem ahead_enc (ns : List Nat) (h : ∀ x ∈ ns, x < 64) (r : List UInt8) : ahead (ns.map letter ++ r) = ns.map letter ++ ahead r := by
  unfold ahead
  rw [List.takeWhile_append_of_pos]
  intro x hx
  obtain ⟨n, hn, rfl⟩ := List.mem_map.1 hx
  exact letter_ne ⟨n, h n hn⟩
theorem ahead_pad (k : Nat) (r : List UInt8) : ahead (List.replicate k 61 ++ 61 :: r) = [] := by
  cases k <;> simp [ahead, List.replicate_succ]
theorem ahead_pad0 (k : Nat) : ahead (List.replicate k 61) = [] := by
  cases k <;> simp [ahead, List.replicate_succ]
theorem core_encB (l : List UInt8) : core (encB l) = numE l := by
  unfold core
  rw [encB_nums, ahead_enc _ (nums_lt _ l rfl), ahead_pad0, List.append_nil, filterMap_letters _ (nums_lt _ l rfl)]
theorem core_encB_behind (l r : List UInt8) : core (encB l ++ 61 :: r) = numE l := by
  unfold core
  rw [encB_nums, List.append_assoc, ahead_enc _ (nums_lt _ l rfl), ahead_pad, List.append_nil, filterMap_letters _ (nums_lt _ l rfl)]
theorem ofNat_toNat (l : List UInt8) : (l.map UInt8.toNat).map UInt8.ofNat = l := by
  rw [List.map_map]
  conv => rhs; rw [← List.map_id l]
  apply List.map_congr_left
  intro c _
  simp
theorem dec_nums (l : List UInt8) : (decSt (numE l)).1.map UInt8.ofNat = l := by
  have := dec_fold l.length l rfl [] 0 (by decide)
  unfold decSt
  rw [this, List.nil_append, ofNat_toNat]
theorem dec_enc (l : List UInt8) : decB (encB l) = l := by unfold decB; rw [core_encB, dec_nums]
theorem dec_enc_behind (l r : List UInt8) : decB (encB l ++ 61 :: r) = l := by unfold decB; rw [core_encB_behind, dec_nums]
/-- Bytes that change nothing. -/
def junk (c : UInt8) : Bool := (placeO c).isNone && c != 61
theorem core_cons_junk (c : UInt8) (l : List UInt8) (h : junk c = true) : core (c :: l) = core l := by
  unfold junk at h
  rw [Bool.and_eq_true] at h
  obtain ⟨h1, h2⟩ := h
  unfold core ahead
  rw [List.takeWhile_cons, h2, if_pos rfl, List.filterMap_cons, Option.isNone_iff_eq_none.1 h1]
theorem core_cons_congr (c : UInt8) (l l' : List UInt8) (h : core l = core l') : core (c :: l) = core (c :: l') := by
  unfold core ahead at *
  rw [List.takeWhile_cons, List.takeWhile_cons]
  by_cases hc : (c != 61) = true
  · rw [if_pos hc, if_pos hc, List.filterMap_cons, List.filterMap_cons, h]
  · rw [if_neg hc, if_neg hc]
theorem core_append_congr (a l l' : List UInt8) (h : core l = core l') : core (a ++ l) = core (a ++ l') := by
  induction a with
  | nil => exact h
  | cons c a ih => exact core_cons_congr c _ _ ih
theorem core_junk (a b : List UInt8) (c : UInt8) (h : junk c = true) : core (a ++ c :: b) = core (a ++ b) :=
  core_append_congr a _ _ (core_cons_junk c b h)
theorem decB_congr {a b : List UInt8} (h : core a = core b) : decB a = decB b := by unfold decB; rw [h]
/-- Line ends between. -/
def wrapL (n : Nat) : Nat → List UInt8 → List UInt8
  | 0, t => t
  | f + 1, t => if n < t.length then t.take n ++ 13 :: 10 :: wrapL n f (t.drop n) else t
theorem core_wrap (n f : Nat) (t : List UInt8) : core (wrapL n f t) = core t := by
  induction f generalizing t with
  | zero => rfl
  | succ f ih =>
    unfold wrapL
    split
    · rw [core_junk _ _ 13 (by decide +kernel), core_junk _ _ 10 (by decide +kernel), core_append_congr _ _ _ (ih _), List.take_append_drop]
    · rfl
theorem decSt_len (ps : List Nat) : ((decSt ps).2.2 = 0 ∨ (decSt ps).2.2 = 2 ∨ (decSt ps).2.2 = 4 ∨ (decSt ps).2.2 = 6) ∧ (decSt ps).2.1 < 65536 ∧ 8 * (decSt ps).1.length + (decSt ps).2.2 = 6 * ps.length := by
  have go : ∀ r : List Nat, ((decSt r.reverse).2.2 = 0 ∨ (decSt r.reverse).2.2 = 2 ∨ (decSt r.reverse).2.2 = 4 ∨ (decSt r.reverse).2.2 = 6) ∧ (decSt r.reverse).2.1 < 65536 ∧ 8 * (decSt r.reverse).1.length + (decSt r.reverse).2.2 = 6 * r.reverse.length := by
    intro r
    induction r with
    | nil => exact ⟨Or.inl rfl, by decide, rfl⟩
    | cons c r ih =>
      obtain ⟨h1, h2, h3⟩ := ih
      have e : decSt (c :: r).reverse = decStep (decSt r.reverse) c := by unfold decSt; rw [List.reverse_cons, List.foldl_append]; rfl
      rw [e]
      refine ⟨?_, Nat.mod_lt _ (by decide), ?_⟩
      · show ((decSt r.reverse).2.2 + 6) % 8 = 0 ∨ _
        simp only [decStep]; omega
      · show 8 * ((decSt r.reverse).1 ++ sends 8 _ 20 ((decSt r.reverse).2.2 + 6)).length + ((decSt r.reverse).2.2 + 6) % 8 = _
        rw [List.length_append, List.length_reverse, List.length_cons]
        rw [List.length_reverse] at h3
        generalize (nextAll 6 (decSt r.reverse).2.1 c) = A
        rcases h1 with h1 | h1 | h1 | h1 <;> rw [h1] at h3 ⊢
        · rw [show (0 : Nat) + 6 = 6 from rfl, sends8_6, List.length_nil]; omega
        · rw [show (2 : Nat) + 6 = 8 from rfl, sends8_8, List.length_singleton]; omega
        · rw [show (4 : Nat) + 6 = 10 from rfl, sends8_10, List.length_singleton]; omega
        · rw [show (6 : Nat) + 6 = 12 from rfl, sends8_12, List.length_singleton]; omega
  have := go ps.reverse
  rwa [List.reverse_reverse] at this
theorem decSt_snoc (ps : List Nat) (p : Nat) : decSt (ps ++ [p]) = decStep (decSt ps) p := by unfold decSt; rw [List.foldl_append]; rfl
theorem core_len (l : List UInt8) : (core l).length ≤ l.length := by
  unfold core ahead
  exact Nat.le_trans (List.length_filterMap_le _ _) (List.takeWhile_sublist _).length_le
theorem decB_len (l : List UInt8) : (decB l).length ≤ l.length * 3 / 4 := by
  have h1 := core_len l
  obtain ⟨_, _, h2⟩ := decSt_len (core l)
  unfold decB
  rw [List.length_map]
  omega
theorem letter_pads (l : List UInt8) : ∀ x ∈ encB l, junk x = false := by
  intro x hx
  rw [encB_nums, List.mem_append] at hx
  rcases hx with h | h
  · obtain ⟨n, hn, rfl⟩ := List.mem_map.1 h
    have h64 := nums_lt _ l rfl n hn
    unfold junk
    rw [placeO_letter ⟨n, h64⟩]; rfl
  · rw [List.mem_replicate] at h
    rw [h.2]; decide +kernel
end Go.Proofs.Ytpoifmcjahjphaa
