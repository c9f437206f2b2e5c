/- gather's closure: one number more, and what it sends on. -/
import Derived.Test.YtpoifmcjahjphaaB64
import Derived.Test.YtpoifmcjahjphaaBits
import Derived.RegionTactic
import Derived.BigRegion
import Derived.BigQuiet
import Derived.StillTailTactics
import Derived.Lib.Hide
set_option linter.unusedVariables false
set_option linter.unusedSimpArgs false
namespace Go.Proofs.Ytpoifmcjahjphaa
open Go.RowKit Go.Proofs.YtpoifmcjahjphaaW.PrintWords
theorem cellB {W : World} {X t : Nat} {v : Value} (h : W.heap[X]? = some (.cells #[v] t (0, 0))) : W.cell? ⟨X, 0, none⟩ = some v := by simp [World.cell?, h]
theorem frozB {W : World} {X t : Nat} {v : Value} (h : W.heap[X]? = some (.cells #[v] t (0, 0))) : W.frozen? ⟨X, 0, none⟩ = false := Lib.frozen_of_heap h 0
/-- What is sent on, of so many bits. -/
def sends (m A : Nat) : Nat → Nat → List Nat
  | 0, _ => []
  | f + 1, b => if m ≤ b then (A / 2 ^ (b - m) % 2 ^ m) :: sends m A f (b - m) else []
def nextAll (fr all n : Nat) : Nat := (all * 2 ^ fr + n) % 65536
def boxBits (X : Nat) (W : World) : Nat := match W.cell? ⟨X, 0, none⟩ with
  | some (.int _ n) => n.toNat
  | _ => 0
theorem boxBits_of {X : Nat} {W : World} {n : Nat} (h : W.cell? ⟨X, 0, none⟩ = some (.int .i64 (n : Int))) : boxBits X W = n := by unfold boxBits; rw [h]; simp
def bitsOf : Value → Nat
  | .int _ n => n.toNat
  | _ => 0

theorem gather86_all (all n : Nat) (ha : all < 65536) (hn : n < 256) : bits BinOp.and .i64 (bits BinOp.or .i64 ((all : Int) * 256) (n : Int)) 65535 = ((nextAll 8 all n : Nat) : Int) := by
  have e1 : (all : Int) * 256 = ((all * 2 ^ 8 : Nat) : Int) := by rw [Int.natCast_mul]; rfl
  rw [e1, or_i64 _ _ (by omega) (by omega), or_add all n 8 (by omega)]
  have e2 : (65535 : Int) = ((2 ^ 16 - 1 : Nat) : Int) := by decide
  rw [e2, and_i64 _ _ (by omega) (by decide), and_mask]
  rfl
theorem gather86_one (A k : Nat) (hA : A < 65536) : bits BinOp.and .i64 ((A : Int) / ((2 ^ k : Nat) : Int)) 63 = ((A / 2 ^ k % 2 ^ 6 : Nat) : Int) := by
  have e1 : (A : Int) / ((2 ^ k : Nat) : Int) = ((A / 2 ^ k : Nat) : Int) := (Int.natCast_ediv A (2 ^ k)).symm
  have h2 : A / 2 ^ k ≤ A := Nat.div_le_self _ _
  have e2 : (63 : Int) = ((2 ^ 6 - 1 : Nat) : Int) := by decide
  rw [e1, e2, and_i64 _ _ (by omega) (by decide), and_mask]
set_option maxHeartbeats 8000000 in
set_option maxRecDepth 100000 in
theorem gather86 (h : Nat) (cap : Value) (M : Nat) (J : List Nat → Nat → Nat → World → Prop)
    (hJB : ∀ l A b W, J l A b W → Boxes h (.func (.func 18) #[] #[cap]) 8 6 A b W)
    (hJ2 : ∀ l A b W A' b', J l A b W → J l A' b' ((W.setCell ⟨h + 3, 0, none⟩ (.int .i64 (A' : Nat))).setCell ⟨h + 4, 0, none⟩ (.int .i64 (b' : Nat))))
    (hJ1 : ∀ l A b W b', J l A b W → J l A b' (W.setCell ⟨h + 4, 0, none⟩ (.int .i64 (b' : Nat))))
    (hJd : ∀ l A b W, J l A b W → J l A b W.drew)
    (hout : ∀ l A b W x, J l A b W → x < 64 → l.length < M → Calls Try.prog 18 #[.int .i64 (x : Nat), cap] W fun e W' => e = .returned (.tuple #[]) ∧ J (l ++ [x]) A b W')
    (l : List Nat) (all bits n : Nat) (w : World) (hJ : J l all bits w) (hbits : bits = 0 ∨ bits = 2 ∨ bits = 4) (ha : all < 65536) (hn : n < 256) (hl : l.length + 2 ≤ M) :
    Calls Try.prog 28 #[.int .i64 (n : Nat), .pointer (some ⟨h + 3, 0, none⟩), .pointer (some ⟨h, 0, none⟩), .pointer (some ⟨h + 4, 0, none⟩), .pointer (some ⟨h + 1, 0, none⟩), .pointer (some ⟨h + 2, 0, none⟩)] w
      fun e w' => e = .returned (.int .i64 (((bits + 8) % 6 : Nat) : Int)) ∧ J (l ++ sends 6 (nextAll 8 all n) 20 (bits + 8)) (nextAll 8 all n) ((bits + 8) % 6) w' := by
  have hB := hJB _ _ _ _ hJ
  have c0 := cellB hB.b0
  have c1 := cellB hB.b1
  have c2 := cellB hB.b2
  have c3 := cellB hB.b3
  have c4 := cellB hB.b4
  have f3 := frozB hB.b3
  have f4 := frozB hB.b4
  have HB := Lib.hid hB
  have HJ2 := Lib.hid (hJ2 l all bits w (nextAll 8 all n) (bits + 8) hJ)
  have HA := Lib.hid (gather86_all all n ha hn)
  have HJB := Lib.hid hJB
  have HJ1 := Lib.hid hJ1
  have HJD := Lib.hid hJd
  have HOUT := Lib.hid hout
  have hb13 : bits ≤ 6 := by omega
  have hA16 : nextAll 8 all n < 65536 := Nat.mod_lt _ (by decide)
  clear hB hJ hJB hJ1 hJ2 hJd hout
  go_enter Try.func28, Try.ntmps28
  go_wp2
  go_region
  rw [HA.out, show ((bits : Nat) : Int) + 8 = ((bits + 8 : Nat) : Int) from by push_cast; rfl]
  have HW := Lib.hid (HJD.out _ _ _ _ HJ2.out)
  have hb0 : bits + 8 = 8 ∨ bits + 8 = 10 ∨ bits + 8 = 12 := by omega
  generalize hAe : nextAll 8 all n = A at *
  generalize hbe : bits + 8 = b0 at *
  generalize (World.drew _) = W1 at *
  clear HJ2 HA c0 c1 c2 c3 c4 f3 f4 HB
  go_wp2
  go_loopw [] (fun W => ∃ (b : Nat) (l2 : List Nat), Hid (J (l ++ l2) A b W) ∧ Hid (l2 ++ sends 6 A 20 b = sends 6 A 20 b0) ∧ Hid (b % 6 = b0 % 6) ∧ (b = 0 ∨ b = 2 ∨ b = 4 ∨ b = 6 ∨ b = 8 ∨ b = 10 ∨ b = 12) ∧ l2.length * 6 + b ≤ b0) (fun W => boxBits (h + 4) W)
  case atStart => exact ⟨b0, [], by rw [List.append_nil]; exact HW, Lib.hid rfl, Lib.hid rfl, by omega, by simp⟩
  case round =>
    obtain ⟨b, l2, HJ, HS, HM, hb, hlb⟩ := hrel
    have hB := HJB.out _ _ _ _ HJ.out
    have c0 := cellB hB.b0
    have c1 := cellB hB.b1
    have c2 := cellB hB.b2
    have c3 := cellB hB.b3
    have c4 := cellB hB.b4
    have f3 := frozB hB.b3
    have f4 := frozB hB.b4
    by_cases hlt : b < 6
    · have hb' : b % 6 = b := Nat.mod_eq_of_lt hlt
      have hd : ¬ (6 : Int) ≤ (b : Int) := by omega
      have HSb : Hid (l2 = sends 6 A 20 b0) := Lib.hid (by
        have h1 := HS.out
        have h2 : sends 6 A 20 b = [] := by unfold sends; rw [if_neg (by omega)]
        rwa [h2, List.append_nil] at h1)
      go_wp2
      go_ret
      subst hAe hbe
      refine ⟨?_, ?_⟩
      · have e := HM.out
        rw [hb'] at e
        show Ending.returned (.int .i64 (b : Int)) = _
        rw [e]
        congr 2
      · rw [← HM.out, hb', ← HSb.out]; exact HJ.out
    · have HNEXT : Hid (l2 ++ [A / 2 ^ (b - 6) % 2 ^ 6] ++ sends 6 A 20 (b - 6) = sends 6 A 20 b0) := Lib.hid (by
        rw [← HS.out, List.append_assoc]
        congr 1
        conv => rhs; unfold sends
        rw [if_pos (by omega)]
        have e : ∀ f g c, c < 6 * f → c < 6 * g → sends 6 A f c = sends 6 A g c := by
          intro f
          induction f with
          | zero => intro g c h1 h2; omega
          | succ f ih =>
            intro g c h1 h2
            cases g with
            | zero => omega
            | succ g =>
              unfold sends
              by_cases hc : 6 ≤ c
              · rw [if_pos hc, if_pos hc, ih g (c - 6) (by omega) (by omega)]
              · rw [if_neg hc, if_neg hc]
        rw [e 20 19 (b - 6) (by omega) (by omega)]; rfl)
      have hM2 : Hid ((b - 6) % 6 = b0 % 6) := Lib.hid (by rw [← HM.out]; omega)
      have HJ3 := Lib.hid (HJ1.out _ _ _ _ (b - 6) HJ.out)
      have hd : (6 : Int) ≤ (b : Int) := by omega
      have hx : A / 2 ^ (b - 6) % 2 ^ 6 < 64 := Nat.mod_lt _ (by decide)
      have hll : (l ++ l2).length < M := by rw [List.length_append]; omega
      have HC := Lib.hid (fun W hW => HOUT.out (l ++ l2) A (b - 6) W (A / 2 ^ (b - 6) % 2 ^ 6) hW hx hll)
      have HONE := Lib.hid (gather86_one A (b - 6) hA16)
      have HMS := Lib.hid (boxBits_of c4)
      have hcases : b = 6 ∨ b = 8 ∨ b = 10 ∨ b = 12 := by omega
      clear hb hx hll HJ1 HOUT
      have fin : ∀ (W : World), J (l ++ l2) A (b - 6) W → True := fun _ _ => trivial
      rcases hcases with rfl | rfl | rfl | rfl
      · have h0 : A / 2 ^ (6 - 6) = A := by simp
        rw [h0] at HC HNEXT HONE
        go_wp2
        generalize hW2 : (World.setCell _ _ _) = W2
        have HJ4 : Hid (J (l ++ l2) A 0 W2) := Lib.hid (hW2 ▸ HJ3.out)
        clear hB c0 c1 c2 c3 c4 f3 f4
        have hB4 := HJB.out _ _ _ _ HJ4.out
        have d1 := cellB hB4.b1
        have d2 := cellB hB4.b2
        have d3 := cellB hB4.b3
        have d4 := cellB hB4.b4
        go_still_tail 8, (by kernel_rfl)
        rw [show IntKind.i64.wrap (IntKind.i64.wrap 64 - 1) = 63 from by decide]
        have h1 : Go.bits BinOp.and .i64 (A : Int) 63 = ((A % 2 ^ 6 : Nat) : Int) := by have := gather86_one A 0 hA16; simpa using this
        rw [h1]
        change wpList _ _ _ _ _ W2.drew
        go_wp2_with fail
        refine (HC.out _ (HJD.out _ _ _ _ HJ4.out)).mono ?_
        rintro e W3 ⟨rfl, HJ5⟩
        have HJ6 := Lib.hid HJ5
        clear HJ5
        go_wp2
        go_roundw
        case rel => exact ⟨0, l2 ++ [A % 2 ^ 6], by rw [← List.append_assoc]; exact HJ6, HNEXT, hM2, by omega, by simp; omega⟩
        case measure =>
          have e5 := cellB (HJB.out _ _ _ _ HJ6.out).b4
          rw [boxBits_of e5, HMS.out]; decide
      · go_wp2
        generalize hW2 : (World.setCell _ _ _) = W2
        have HJ4 : Hid (J (l ++ l2) A 2 W2) := Lib.hid (hW2 ▸ HJ3.out)
        clear hB c0 c1 c2 c3 c4 f3 f4
        have hB4 := HJB.out _ _ _ _ HJ4.out
        have d1 := cellB hB4.b1
        have d2 := cellB hB4.b2
        have d3 := cellB hB4.b3
        have d4 := cellB hB4.b4
        go_still_tail 8, (by kernel_rfl)
        rw [show IntKind.i64.wrap (IntKind.i64.wrap 64 - 1) = 63 from by decide]
        have h1 : Go.bits BinOp.and .i64 ((A : Int) / 4) 63 = ((A / 2 ^ 2 % 2 ^ 6 : Nat) : Int) := HONE.out
        rw [h1]
        change wpList _ _ _ _ _ W2.drew
        go_wp2_with fail
        refine (HC.out _ (HJD.out _ _ _ _ HJ4.out)).mono ?_
        rintro e W3 ⟨rfl, HJ5⟩
        have HJ6 := Lib.hid HJ5
        clear HJ5
        go_wp2
        go_roundw
        case rel => exact ⟨2, l2 ++ [A / 2 ^ 2 % 2 ^ 6], by rw [← List.append_assoc]; exact HJ6, HNEXT, hM2, by omega, by simp; omega⟩
        case measure =>
          have e5 := cellB (HJB.out _ _ _ _ HJ6.out).b4
          rw [boxBits_of e5, HMS.out]; decide
      · go_wp2
        generalize hW2 : (World.setCell _ _ _) = W2
        have HJ4 : Hid (J (l ++ l2) A 4 W2) := Lib.hid (hW2 ▸ HJ3.out)
        clear hB c0 c1 c2 c3 c4 f3 f4
        have hB4 := HJB.out _ _ _ _ HJ4.out
        have d1 := cellB hB4.b1
        have d2 := cellB hB4.b2
        have d3 := cellB hB4.b3
        have d4 := cellB hB4.b4
        go_still_tail 8, (by kernel_rfl)
        rw [show IntKind.i64.wrap (IntKind.i64.wrap 64 - 1) = 63 from by decide]
        have h1 : Go.bits BinOp.and .i64 ((A : Int) / 16) 63 = ((A / 2 ^ 4 % 2 ^ 6 : Nat) : Int) := HONE.out
        rw [h1]
        change wpList _ _ _ _ _ W2.drew
        go_wp2_with fail
        refine (HC.out _ (HJD.out _ _ _ _ HJ4.out)).mono ?_
        rintro e W3 ⟨rfl, HJ5⟩
        have HJ6 := Lib.hid HJ5
        clear HJ5
        go_wp2
        go_roundw
        case rel => exact ⟨4, l2 ++ [A / 2 ^ 4 % 2 ^ 6], by rw [← List.append_assoc]; exact HJ6, HNEXT, hM2, by omega, by simp; omega⟩
        case measure =>
          have e5 := cellB (HJB.out _ _ _ _ HJ6.out).b4
          rw [boxBits_of e5, HMS.out]; decide
      · go_wp2
        generalize hW2 : (World.setCell _ _ _) = W2
        have HJ4 : Hid (J (l ++ l2) A 6 W2) := Lib.hid (hW2 ▸ HJ3.out)
        clear hB c0 c1 c2 c3 c4 f3 f4
        have hB4 := HJB.out _ _ _ _ HJ4.out
        have d1 := cellB hB4.b1
        have d2 := cellB hB4.b2
        have d3 := cellB hB4.b3
        have d4 := cellB hB4.b4
        go_still_tail 8, (by kernel_rfl)
        rw [show IntKind.i64.wrap (IntKind.i64.wrap 64 - 1) = 63 from by decide]
        have h1 : Go.bits BinOp.and .i64 ((A : Int) / 64) 63 = ((A / 2 ^ 6 % 2 ^ 6 : Nat) : Int) := HONE.out
        rw [h1]
        change wpList _ _ _ _ _ W2.drew
        go_wp2_with fail
        refine (HC.out _ (HJD.out _ _ _ _ HJ4.out)).mono ?_
        rintro e W3 ⟨rfl, HJ5⟩
        have HJ6 := Lib.hid HJ5
        clear HJ5
        go_wp2
        go_roundw
        case rel => exact ⟨6, l2 ++ [A / 2 ^ 6 % 2 ^ 6], by rw [← List.append_assoc]; exact HJ6, HNEXT, hM2, by omega, by simp; omega⟩
        case measure =>
          have e5 := cellB (HJB.out _ _ _ _ HJ6.out).b4
          rw [boxBits_of e5, HMS.out]; decide

theorem gather68_all (all n : Nat) (ha : all < 65536) (hn : n < 64) : bits BinOp.and .i64 (bits BinOp.or .i64 ((all : Int) * 64) (n : Int)) 65535 = ((nextAll 6 all n : Nat) : Int) := by
  have e1 : (all : Int) * 64 = ((all * 2 ^ 6 : Nat) : Int) := by rw [Int.natCast_mul]; rfl
  rw [e1, or_i64 _ _ (by omega) (by omega), or_add all n 6 (by omega)]
  have e2 : (65535 : Int) = ((2 ^ 16 - 1 : Nat) : Int) := by decide
  rw [e2, and_i64 _ _ (by omega) (by decide), and_mask]
  rfl
theorem gather68_one (A k : Nat) (hA : A < 65536) : bits BinOp.and .i64 ((A : Int) / ((2 ^ k : Nat) : Int)) 255 = ((A / 2 ^ k % 2 ^ 8 : Nat) : Int) := by
  have e1 : (A : Int) / ((2 ^ k : Nat) : Int) = ((A / 2 ^ k : Nat) : Int) := (Int.natCast_ediv A (2 ^ k)).symm
  have h2 : A / 2 ^ k ≤ A := Nat.div_le_self _ _
  have e2 : (255 : Int) = ((2 ^ 8 - 1 : Nat) : Int) := by decide
  rw [e1, e2, and_i64 _ _ (by omega) (by decide), and_mask]
set_option maxHeartbeats 8000000 in
set_option maxRecDepth 100000 in
theorem gather68 (h : Nat) (cap : Value) (M : Nat) (J : List Nat → Nat → Nat → World → Prop)
    (hJB : ∀ l A b W, J l A b W → Boxes h (.func (.func 24) #[] #[cap]) 6 8 A b W)
    (hJ2 : ∀ l A b W A' b', J l A b W → J l A' b' ((W.setCell ⟨h + 3, 0, none⟩ (.int .i64 (A' : Nat))).setCell ⟨h + 4, 0, none⟩ (.int .i64 (b' : Nat))))
    (hJ1 : ∀ l A b W b', J l A b W → J l A b' (W.setCell ⟨h + 4, 0, none⟩ (.int .i64 (b' : Nat))))
    (hJd : ∀ l A b W, J l A b W → J l A b W.drew)
    (hout : ∀ l A b W x, J l A b W → x < 256 → l.length < M → Calls Try.prog 24 #[.int .i64 (x : Nat), cap] W fun e W' => e = .returned (.tuple #[]) ∧ J (l ++ [x]) A b W')
    (l : List Nat) (all bits n : Nat) (w : World) (hJ : J l all bits w) (hbits : bits = 0 ∨ bits = 2 ∨ bits = 4 ∨ bits = 6) (ha : all < 65536) (hn : n < 64) (hl : l.length + 2 ≤ M) :
    Calls Try.prog 28 #[.int .i64 (n : Nat), .pointer (some ⟨h + 3, 0, none⟩), .pointer (some ⟨h, 0, none⟩), .pointer (some ⟨h + 4, 0, none⟩), .pointer (some ⟨h + 1, 0, none⟩), .pointer (some ⟨h + 2, 0, none⟩)] w
      fun e w' => e = .returned (.int .i64 (((bits + 6) % 8 : Nat) : Int)) ∧ J (l ++ sends 8 (nextAll 6 all n) 20 (bits + 6)) (nextAll 6 all n) ((bits + 6) % 8) w' := by
  have hB := hJB _ _ _ _ hJ
  have c0 := cellB hB.b0
  have c1 := cellB hB.b1
  have c2 := cellB hB.b2
  have c3 := cellB hB.b3
  have c4 := cellB hB.b4
  have f3 := frozB hB.b3
  have f4 := frozB hB.b4
  have HB := Lib.hid hB
  have HJ2 := Lib.hid (hJ2 l all bits w (nextAll 6 all n) (bits + 6) hJ)
  have HA := Lib.hid (gather68_all all n ha hn)
  have HJB := Lib.hid hJB
  have HJ1 := Lib.hid hJ1
  have HJD := Lib.hid hJd
  have HOUT := Lib.hid hout
  have hb13 : bits ≤ 6 := by omega
  have hA16 : nextAll 6 all n < 65536 := Nat.mod_lt _ (by decide)
  clear hB hJ hJB hJ1 hJ2 hJd hout
  go_enter Try.func28, Try.ntmps28
  go_wp2
  go_region
  rw [HA.out, show ((bits : Nat) : Int) + 6 = ((bits + 6 : Nat) : Int) from by push_cast; rfl]
  have HW := Lib.hid (HJD.out _ _ _ _ HJ2.out)
  have hb0 : bits + 6 = 6 ∨ bits + 6 = 8 ∨ bits + 6 = 10 ∨ bits + 6 = 12 := by omega
  generalize hAe : nextAll 6 all n = A at *
  generalize hbe : bits + 6 = b0 at *
  generalize (World.drew _) = W1 at *
  clear HJ2 HA c0 c1 c2 c3 c4 f3 f4 HB
  go_wp2
  go_loopw [] (fun W => ∃ (b : Nat) (l2 : List Nat), Hid (J (l ++ l2) A b W) ∧ Hid (l2 ++ sends 8 A 20 b = sends 8 A 20 b0) ∧ Hid (b % 8 = b0 % 8) ∧ (b = 0 ∨ b = 2 ∨ b = 4 ∨ b = 6 ∨ b = 8 ∨ b = 10 ∨ b = 12) ∧ l2.length * 8 + b ≤ b0) (fun W => boxBits (h + 4) W)
  case atStart => exact ⟨b0, [], by rw [List.append_nil]; exact HW, Lib.hid rfl, Lib.hid rfl, by omega, by simp⟩
  case round =>
    obtain ⟨b, l2, HJ, HS, HM, hb, hlb⟩ := hrel
    have hB := HJB.out _ _ _ _ HJ.out
    have c0 := cellB hB.b0
    have c1 := cellB hB.b1
    have c2 := cellB hB.b2
    have c3 := cellB hB.b3
    have c4 := cellB hB.b4
    have f3 := frozB hB.b3
    have f4 := frozB hB.b4
    by_cases hlt : b < 8
    · have hb' : b % 8 = b := Nat.mod_eq_of_lt hlt
      have hd : ¬ (8 : Int) ≤ (b : Int) := by omega
      have HSb : Hid (l2 = sends 8 A 20 b0) := Lib.hid (by
        have h1 := HS.out
        have h2 : sends 8 A 20 b = [] := by unfold sends; rw [if_neg (by omega)]
        rwa [h2, List.append_nil] at h1)
      go_wp2
      go_ret
      subst hAe hbe
      refine ⟨?_, ?_⟩
      · have e := HM.out
        rw [hb'] at e
        show Ending.returned (.int .i64 (b : Int)) = _
        rw [e]
        congr 2
      · rw [← HM.out, hb', ← HSb.out]; exact HJ.out
    · have HNEXT : Hid (l2 ++ [A / 2 ^ (b - 8) % 2 ^ 8] ++ sends 8 A 20 (b - 8) = sends 8 A 20 b0) := Lib.hid (by
        rw [← HS.out, List.append_assoc]
        congr 1
        conv => rhs; unfold sends
        rw [if_pos (by omega)]
        have e : ∀ f g c, c < 8 * f → c < 8 * g → sends 8 A f c = sends 8 A g c := by
          intro f
          induction f with
          | zero => intro g c h1 h2; omega
          | succ f ih =>
            intro g c h1 h2
            cases g with
            | zero => omega
            | succ g =>
              unfold sends
              by_cases hc : 8 ≤ c
              · rw [if_pos hc, if_pos hc, ih g (c - 8) (by omega) (by omega)]
              · rw [if_neg hc, if_neg hc]
        rw [e 20 19 (b - 8) (by omega) (by omega)]; rfl)
      have hM2 : Hid ((b - 8) % 8 = b0 % 8) := Lib.hid (by rw [← HM.out]; omega)
      have HJ3 := Lib.hid (HJ1.out _ _ _ _ (b - 8) HJ.out)
      have hd : (8 : Int) ≤ (b : Int) := by omega
      have hx : A / 2 ^ (b - 8) % 2 ^ 8 < 256 := Nat.mod_lt _ (by decide)
      have hll : (l ++ l2).length < M := by rw [List.length_append]; omega
      have HC := Lib.hid (fun W hW => HOUT.out (l ++ l2) A (b - 8) W (A / 2 ^ (b - 8) % 2 ^ 8) hW hx hll)
      have HONE := Lib.hid (gather68_one A (b - 8) hA16)
      have HMS := Lib.hid (boxBits_of c4)
      have hcases : b = 8 ∨ b = 10 ∨ b = 12 := by omega
      clear hb hx hll HJ1 HOUT
      have fin : ∀ (W : World), J (l ++ l2) A (b - 8) W → True := fun _ _ => trivial
      rcases hcases with rfl | rfl | rfl
      · have h0 : A / 2 ^ (8 - 8) = A := by simp
        rw [h0] at HC HNEXT HONE
        go_wp2
        generalize hW2 : (World.setCell _ _ _) = W2
        have HJ4 : Hid (J (l ++ l2) A 0 W2) := Lib.hid (hW2 ▸ HJ3.out)
        clear hB c0 c1 c2 c3 c4 f3 f4
        have hB4 := HJB.out _ _ _ _ HJ4.out
        have d1 := cellB hB4.b1
        have d2 := cellB hB4.b2
        have d3 := cellB hB4.b3
        have d4 := cellB hB4.b4
        go_still_tail 8, (by kernel_rfl)
        rw [show IntKind.i64.wrap (IntKind.i64.wrap 256 - 1) = 255 from by decide]
        have h1 : Go.bits BinOp.and .i64 (A : Int) 255 = ((A % 2 ^ 8 : Nat) : Int) := by have := gather68_one A 0 hA16; simpa using this
        rw [h1]
        change wpList _ _ _ _ _ W2.drew
        go_wp2_with fail
        refine (HC.out _ (HJD.out _ _ _ _ HJ4.out)).mono ?_
        rintro e W3 ⟨rfl, HJ5⟩
        have HJ6 := Lib.hid HJ5
        clear HJ5
        go_wp2
        go_roundw
        case rel => exact ⟨0, l2 ++ [A % 2 ^ 8], by rw [← List.append_assoc]; exact HJ6, HNEXT, hM2, by omega, by simp; omega⟩
        case measure =>
          have e5 := cellB (HJB.out _ _ _ _ HJ6.out).b4
          rw [boxBits_of e5, HMS.out]; decide
      · go_wp2
        generalize hW2 : (World.setCell _ _ _) = W2
        have HJ4 : Hid (J (l ++ l2) A 2 W2) := Lib.hid (hW2 ▸ HJ3.out)
        clear hB c0 c1 c2 c3 c4 f3 f4
        have hB4 := HJB.out _ _ _ _ HJ4.out
        have d1 := cellB hB4.b1
        have d2 := cellB hB4.b2
        have d3 := cellB hB4.b3
        have d4 := cellB hB4.b4
        go_still_tail 8, (by kernel_rfl)
        rw [show IntKind.i64.wrap (IntKind.i64.wrap 256 - 1) = 255 from by decide]
        have h1 : Go.bits BinOp.and .i64 ((A : Int) / 4) 255 = ((A / 2 ^ 2 % 2 ^ 8 : Nat) : Int) := HONE.out
        rw [h1]
        change wpList _ _ _ _ _ W2.drew
        go_wp2_with fail
        refine (HC.out _ (HJD.out _ _ _ _ HJ4.out)).mono ?_
        rintro e W3 ⟨rfl, HJ5⟩
        have HJ6 := Lib.hid HJ5
        clear HJ5
        go_wp2
        go_roundw
        case rel => exact ⟨2, l2 ++ [A / 2 ^ 2 % 2 ^ 8], by rw [← List.append_assoc]; exact HJ6, HNEXT, hM2, by omega, by simp; omega⟩
        case measure =>
          have e5 := cellB (HJB.out _ _ _ _ HJ6.out).b4
          rw [boxBits_of e5, HMS.out]; decide
      · go_wp2
        generalize hW2 : (World.setCell _ _ _) = W2
        have HJ4 : Hid (J (l ++ l2) A 4 W2) := Lib.hid (hW2 ▸ HJ3.out)
        clear hB c0 c1 c2 c3 c4 f3 f4
        have hB4 := HJB.out _ _ _ _ HJ4.out
        have d1 := cellB hB4.b1
        have d2 := cellB hB4.b2
        have d3 := cellB hB4.b3
        have d4 := cellB hB4.b4
        go_still_tail 8, (by kernel_rfl)
        rw [show IntKind.i64.wrap (IntKind.i64.wrap 256 - 1) = 255 from by decide]
        have h1 : Go.bits BinOp.and .i64 ((A : Int) / 16) 255 = ((A / 2 ^ 4 % 2 ^ 8 : Nat) : Int) := HONE.out
        rw [h1]
        change wpList _ _ _ _ _ W2.drew
        go_wp2_with fail
        refine (HC.out _ (HJD.out _ _ _ _ HJ4.out)).mono ?_
        rintro e W3 ⟨rfl, HJ5⟩
        have HJ6 := Lib.hid HJ5
        clear HJ5
        go_wp2
        go_roundw
        case rel => exact ⟨4, l2 ++ [A / 2 ^ 4 % 2 ^ 8], by rw [← List.append_assoc]; exact HJ6, HNEXT, hM2, by omega, by simp; omega⟩
        case measure =>
          have e5 := cellB (HJB.out _ _ _ _ HJ6.out).b4
          rw [boxBits_of e5, HMS.out]; decide
end Go.Proofs.Ytpoifmcjahjphaa
