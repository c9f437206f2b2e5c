/- The plain functions of chapter 3 (signs by per cent), over lists of bytes, with no program in sight. -/
import GoSem.Claim
import Derived.WalkKit
import Derived.Test.YtkiicejnoigmbaaLow
namespace Go.Proofs.Ytkiicejnoigmbaa.Plain

theorem u8_all {p : UInt8 → Prop} (h : ∀ n : Fin 256, p (UInt8.ofFin n)) (c : UInt8) : p c := h c.toFin

def isL (c : UInt8) : Bool := (decide (97 ≤ c) && decide (c ≤ 122)) || (decide (65 ≤ c) && decide (c ≤ 90))
def isD (c : UInt8) : Bool := decide (48 ≤ c) && decide (c ≤ 57)
def isM (c : UInt8) : Bool := c == 45 || c == 46 || c == 95 || c == 126
def stays (c : UInt8) : Bool := isL c || isD c || isM c
def digits : List UInt8 := [48, 49, 50, 51, 52, 53, 54, 55, 56, 57, 65, 66, 67, 68, 69, 70]
def dig (n : Nat) : UInt8 := digits.getD n 0
def encB (c : UInt8) : List UInt8 := if stays c then [c] else [37, dig (c.toNat / 16), dig (c.toNat % 16)]
def enc (l : List UInt8) : List UInt8 := l.flatMap encB
/-- The number of a hexadecimal digit; below 0: it is none. -/
def hv (c : UInt8) : Int := if isD c then (c.toNat : Int) - 48 else if 65 ≤ c ∧ c ≤ 70 then (c.toNat : Int) - 55 else if 97 ≤ c ∧ c ≤ 102 then (c.toNat : Int) - 87 else -1
def join (a b : UInt8) : UInt8 := UInt8.ofNat (hv a * 16 + hv b).toNat
def isHex (l : List UInt8) : Bool := match l with
  | a :: b :: _ => decide (0 ≤ hv a) && decide (0 ≤ hv b)
  | _ => false
def dec : List UInt8 → List UInt8
  | [] => []
  | c :: r => if c = 37 ∧ isHex r = true then join (r.getD 0 0) (r.getD 1 0) :: dec (r.drop 2) else c :: dec r
termination_by l => l.length
decreasing_by all_goals (simp; try omega)

theorem dec_nil : dec [] = [] := by rw [dec]
theorem dec_cons (c : UInt8) (r : List UInt8) : dec (c :: r) = if c = 37 ∧ isHex r = true then join (r.getD 0 0) (r.getD 1 0) :: dec (r.drop 2) else c :: dec r := by rw [dec]

theorem enc_append (a b : List UInt8) : enc (a ++ b) = enc a ++ enc b := by simp [enc]
theorem enc_nil : enc [] = [] := rfl
theorem enc_one (c : UInt8) : enc [c] = encB c := by simp [enc]
theorem encB_len (c : UInt8) : 1 ≤ (encB c).length ∧ (encB c).length ≤ 3 := by unfold encB; split <;> simp
theorem enc_len (l : List UInt8) : l.length ≤ (enc l).length ∧ (enc l).length ≤ 3 * l.length := by
  induction l with
  | nil => simp [enc]
  | cons c l ih =>
    have := encB_len c
    have e : enc (c :: l) = encB c ++ enc l := by simp [enc]
    rw [e, List.length_append, List.length_cons]
    omega
theorem dec_len : ∀ (n : Nat) (l : List UInt8), l.length ≤ n → (dec l).length ≤ l.length ∧ l.length ≤ 3 * (dec l).length := by
  intro n
  induction n with
  | zero =>
    intro l h
    obtain rfl : l = [] := List.eq_nil_of_length_eq_zero (by omega)
    simp [dec_nil]
  | succ n ih =>
    intro l h
    cases l with
    | nil => simp [dec_nil]
    | cons c r =>
      rw [dec_cons]
      simp only [List.length_cons] at h
      split
      · rename_i hh
        have h2 : 2 ≤ r.length := by
          have := hh.2
          match r with
          | [] => simp [isHex] at this
          | [_] => simp [isHex] at this
          | _ :: _ :: r => simp
        have := ih (r.drop 2) (by simp; omega)
        simp only [List.length_drop] at this
        simp only [List.length_cons]
        omega
      · have := ih r (by omega)
        simp only [List.length_cons]
        omega

/-- What is encoded is decoded. -/
theorem hv_dig : ∀ n : Fin 16, hv (dig n) = (n : Int) := by decide +kernel
theorem join_encB : ∀ c : UInt8, 0 ≤ hv (dig (c.toNat / 16)) ∧ 0 ≤ hv (dig (c.toNat % 16)) ∧ join (dig (c.toNat / 16)) (dig (c.toNat % 16)) = c := by
  exact u8_all (by decide +kernel)
theorem stays_ne : ∀ c : UInt8, stays c = true → c ≠ 37 := u8_all (by decide +kernel)
theorem dec_encB (c : UInt8) (l : List UInt8) : dec (encB c ++ l) = c :: dec l := by
  unfold encB
  split
  · rename_i h
    show dec (c :: l) = _
    rw [dec_cons, if_neg (fun hh => stays_ne c h hh.1)]
  · obtain ⟨h1, h2, h3⟩ := join_encB c
    show dec (37 :: dig (c.toNat / 16) :: dig (c.toNat % 16) :: l) = _
    rw [dec_cons, if_pos ⟨rfl, by simp [isHex, h1, h2]⟩]
    simp [h3]
theorem dec_enc (l : List UInt8) : dec (enc l) = l := by
  induction l with
  | nil => simp [enc, dec_nil]
  | cons c l ih =>
    have e : enc (c :: l) = encB c ++ enc l := by simp [enc]
    rw [e, dec_encB, ih]
/-- What stands in what is encoded. -/
theorem encB_mem (c x : UInt8) (h : x ∈ encB c) : stays x = true ∨ x = 37 := by
  unfold encB at h
  have hd : ∀ n : Fin 16, stays (dig n) = true := by decide +kernel
  have hc := c.toNat_lt
  split at h
  · rename_i hs
    simp at h; subst h; exact .inl hs
  · simp at h
    rcases h with rfl | rfl | rfl
    · exact .inr rfl
    · exact .inl (hd ⟨c.toNat / 16, by omega⟩)
    · exact .inl (hd ⟨c.toNat % 16, by omega⟩)
theorem enc_mem (l : List UInt8) (x : UInt8) (h : x ∈ enc l) : stays x = true ∨ x = 37 := by
  simp only [enc, List.mem_flatMap] at h
  obtain ⟨c, _, h⟩ := h
  exact encB_mem c x h
/-- Texts one behind the other: where no sign stands near the first one's end. -/
theorem dec_append : ∀ (n : Nat) (a b : List UInt8), a.length ≤ n → (∀ i, a.length - 2 ≤ i → i < a.length → a.getD i 0 ≠ 37) → dec (a ++ b) = dec a ++ dec b := by
  intro n
  induction n with
  | zero =>
    intro a b h _
    obtain rfl : a = [] := List.eq_nil_of_length_eq_zero (by omega)
    simp [dec_nil]
  | succ n ih =>
    intro a b h hs
    match a with
    | [] => simp [dec_nil]
    | [x] =>
      have h0 : x ≠ 37 := by simpa using hs 0 (by simp) (by simp)
      show dec (x :: b) = dec [x] ++ dec b
      rw [dec_cons, dec_cons, if_neg (fun hh => h0 hh.1), if_neg (fun hh => h0 hh.1), dec_nil]; rfl
    | [x, y] =>
      have h0 : x ≠ 37 := by simpa using hs 0 (by simp) (by simp)
      have h1 : y ≠ 37 := by simpa using hs 1 (by simp) (by simp)
      show dec (x :: y :: b) = dec [x, y] ++ dec b
      rw [dec_cons, if_neg (fun hh => h0 hh.1), dec_cons, if_neg (fun hh => h1 hh.1), dec_cons, if_neg (fun hh => h0 hh.1), dec_cons, if_neg (fun hh => h1 hh.1), dec_nil]; rfl
    | c :: y :: z :: r =>
      simp only [List.length_cons] at h
      have e : isHex ((y :: z :: r) ++ b) = isHex (y :: z :: r) := rfl
      show dec (c :: ((y :: z :: r) ++ b)) = dec (c :: y :: z :: r) ++ dec b
      rw [dec_cons, dec_cons, e]
      by_cases hc : c = 37 ∧ isHex (y :: z :: r) = true
      · rw [if_pos hc, if_pos hc]
        show join y z :: dec (r ++ b) = join y z :: dec r ++ dec b
        rw [ih r b (by omega) (fun i h1 h2 => by
          have := hs (i + 3) (by simp; omega) (by simp; omega)
          simpa using this)]
        rfl
      · rw [if_neg hc, if_neg hc, ih (y :: z :: r) b (by simp; omega) (fun i h1 h2 => by
          have := hs (i + 1) (by simp at h1 ⊢; omega) (by simp at h2 ⊢; omega)
          simpa using this)]
        rfl

/-- A value that tells its alphabet: cut at the first two quotes. -/
def cutQ : List UInt8 → Option (List UInt8 × List UInt8)
  | [] => none
  | c :: r => if c = 39 then some ([], r) else (cutQ r).map fun p => (c :: p.1, p.2)
def ext (l : List UInt8) : List UInt8 × List UInt8 × Bool :=
  match cutQ l with
  | none => ([], [], false)
  | some (a, r) => match cutQ r with
    | none => ([], [], false)
    | some (_, v) => (small a, dec v, true)
end Go.Proofs.Ytkiicejnoigmbaa.Plain
