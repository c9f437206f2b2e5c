/- fold.Open. -/
import Derived.Test.YtdgdilbbpnlplaaDoorCopy
import Derived.Test.YtdgdilbbpnlplaaDoorFoldW
import Derived.Test.YtdgdilbbpnlplaaDoorEqA
set_option linter.unusedVariables false
set_option linter.unusedSimpArgs false
namespace Go.Proofs.YtdgdilbbpnlplaaDoor
open Go.RowKit Go.Shelf Pr Go.Proofs.YtdgdilbbpnlplaaDoorW.PrintWords Go.Proofs.YtdgdilbbpnlplaaDoorW.PrintLast Go.Proofs.YtdgdilbbpnlplaaDoorW.PrintMore
def GrowPost (w : World) (e : Ending) (w' : World) : Prop := ∃ A c, e = .returned (.slice A 0 c) ∧ (Kd.raw 4).R 32 w' w.heap.size (fun _ => True) (.slice A 0 c) [] ∧ Below w.heap.size w w'
set_option maxHeartbeats 2000000 in
set_option maxRecDepth 100000 in
theorem grow_any (n : Nat) (w : World) (hn : n ≤ 1000000) : Calls Tryd.prog 36 #[.slice none 0 0, .int .i64 n] w (GrowPost w) := by
  have hu32 := Tryd.underlying32
  by_cases h0 : n = 0
  · subst h0
    go_enter Tryd.func36, Tryd.ntmps36
    go_wp2
    go_ret
    exact ⟨_, _, rfl, Kd.R_nil _ _ _ _ _, Below.refl _ _⟩
  · have h1 : ¬ (n : Int) < 0 := by omega
    have h2 : (0 : Int) < (n : Int) := by omega
    go_enter Tryd.func36, Tryd.ntmps36
    go_wp2_with (first | ((with_reducible refine gate_dst (N := 22) rfl ?_); at_builtin; refine Kd.R_append_zeros (Kd.raw 4) (w0 := w) w.heap.size rfl (.tmp 20) (.tmp 21) 22 3 32 (.agg #[(.string ⟨#[]⟩), (.slice none 0 0), (.string ⟨#[]⟩), (.slice none 0 0)]) 80 rfl Tryd.underlying22 Tryd.underlying3 info32' rfl (by decide) (by decide) (.slice none 0 0) [] [.string ⟨#[]⟩, .slice none 0 0, .string ⟨#[]⟩, .slice none 0 0] n (fun _ => True) rfl rfl ⟨rfl, rfl, by decide⟩ (fun _ _ => trivial) (Kd.R_nil _ _ _ _ _) (by omega) (Below.refl _ _) (Nat.le_refl _) (by first | (simp; done) | (simp; omega)) ?_; intro v1 W1 ho hb hg hat; obtain ⟨B1, d1, e1⟩ := Kd.R_slice ho; subst e1; have HO := Lib.hid (Kd.R_take ho (m := 0) (Nat.zero_le _)); have HB := Lib.hid hb; generalize ([] ++ List.replicate (n : Int).toNat [Value.string ⟨#[]⟩, .slice none 0 0, .string ⟨#[]⟩, .slice none 0 0]) = rs at *; clear ho hb hg hat))
    go_ret
    exact ⟨_, _, rfl, HO.out, HB.out⟩
def acc (ra rb : List (List Value)) : Nat → List (List Value)
  | 0 => []
  | 1 => ra
  | _ => ra ++ rb
set_option maxHeartbeats 4000000 in
set_option maxRecDepth 100000 in
theorem concat_any (Aa Ab : Option Addr) (na nb ca cb bR : Nat) (ra rb : List (List Value)) (w : World) (ha : Kd.C (Kd.raw 4) w Aa na ra) (hb : Kd.C (Kd.raw 4) w Ab nb rb) (hla : na ≤ 100000) (hlb : nb ≤ 100000)
    (hR : w.heap[bR]? = some (.cells #[.slice Aa na ca, .slice Ab nb cb] 22 (0, 0))) :
    Calls Tryd.prog 29 #[.slice (some ⟨bR, 0, none⟩) 2 2] w fun e w' => ∃ v, e = .returned v ∧ (Kd.raw 4).R 32 w' w.heap.size (fun _ => True) v (ra ++ rb) ∧ Below w.heap.size w w' := by
  have hu32 := Tryd.underlying32
  have hc0 : w.cell? ⟨bR, 0, none⟩ = some (.slice Aa na ca) := by simp [World.cell?, hR]
  have hc1 : w.cell? ⟨bR, 1, none⟩ = some (.slice Ab nb cb) := by simp [World.cell?, hR]
  have HA := Lib.hid ha
  have HB := Lib.hid hb
  have HC := Lib.hid (And.intro hc0 hc1)
  clear hR ha hb
  go_enter Tryd.func29, Tryd.ntmps29
  go_wp2
  go_loopw [3, 11] (fun s i wr => ∃ k : Nat, k ≤ 2 ∧ i = .int .i64 k ∧ s = .int .i64 (if k = 0 then 0 else if k = 1 then (na : Int) else (na : Int) + nb) ∧ w = wr) (fun _ i _ => 2 - (intOf i).toNat)
  case atStart => exact ⟨0, by omega, by first | rfl | trivial, by first | rfl | trivial | (simp; done), by first | rfl | trivial⟩
  case round =>
    obtain ⟨k, hk, rfl, rfl, rfl⟩ := hrel
    match k, hk with
    | 0, _ =>
      have h1 : ¬ (na : Int) < 0 := by omega
      simp only [if_true]
      go_wp2
      go_roundw
      case rel => exact ⟨1, by omega, by first | rfl | trivial | go_num, by first | rfl | (simp; done) | go_num, by first | rfl | trivial⟩
      case measure => first | (simp [intOf]; done) | (simp [intOf]; omega) | decide
    | 1, _ =>
      have h1 : ¬ (na : Int) + (nb : Int) < 0 := by omega
      simp only [if_true]
      go_wp2
      go_roundw
      case rel => exact ⟨2, by omega, by first | rfl | trivial | go_num, by first | rfl | (simp; done) | go_num, by first | rfl | trivial⟩
      case measure => first | (simp [intOf]; done) | (simp [intOf]; omega) | decide
    | 2, _ =>
      go_wp2_with fail
      have e0 : (na : Int) + (nb : Int) = ((na + nb : Nat) : Int) := by omega
      rw [e0]
      refine (grow_any (na + nb) w (by omega)).mono ?_
      rintro e W1 ⟨A6, c6, rfl, hr, hb1⟩
      have HR1 := Lib.hid hr
      have HB1 := Lib.hid hb1
      have hla' := HA.out.1
      clear hr hb1
      dsimp only
      go_wp2
      go_loopw [6, 27] (fun vo i ws => ∃ k : Nat, k ≤ 2 ∧ i = .int .i64 k ∧ Hid ((Kd.raw 4).R 32 ws w.heap.size (fun _ => True) vo (acc ra rb k)) ∧ Hid (Below w.heap.size w ws)) (fun _ i _ => 2 - (intOf i).toNat)
      case atStart => exact ⟨0, by omega, by first | rfl | trivial, HR1, HB1⟩
      case round =>
        obtain ⟨k, hk, rfl, HO, Hb⟩ := hrel
        have h0 := (Hb.out.cell (World.block_lt_of_cell? w _ HC.out.1)).trans HC.out.1
        have h1 := (Hb.out.cell (World.block_lt_of_cell? w _ HC.out.2)).trans HC.out.2
        match k, hk with
        | 0, _ =>
          have HCC := Lib.hid (Kd.C_below HA.out Hb.out)
          have HO : Hid ((Kd.raw 4).R 32 wr w.heap.size (fun _ => True) u6 []) := HO
          go_wp2_with (first | ((with_reducible refine gate_builtin (b := .append) (xs := #[.tmp 31, .tmp 32]) rfl ?_); at_builtin; refine Kd.R_append_rows (Kd.raw 4) (Rr := (Kd.raw 4).K wr) (w0 := w) w.heap.size rfl (.tmp 31) (.tmp 32) 22 32 (.agg #[(.string ⟨#[]⟩), (.slice none 0 0), (.string ⟨#[]⟩), (.slice none 0 0)]) 80 rfl Tryd.underlying22 info32' rfl (by decide) (by decide) u6 [] ra Aa na ca (fun _ => True) (fun _ => False) rfl rfl HO.out HCC.out (fun x cs hk => hk) (fun _ hk => hk.elim) (fun _ _ => trivial) Hb.out Hb.out.size (by simp; omega) ?_; intro v1 W2 ho2 hb2 hg2 hat2; have HO3 := Lib.hid ho2; have HB3 := Lib.hid hb2; clear ho2 hb2 hg2 hat2; (try dsimp only); (try simp only [Act.put, List.setIfInBounds_toArray, List.set_cons_zero, List.set_cons_succ])))
          go_wp2
          go_roundw
          case rel => exact ⟨1, by omega, by first | rfl | trivial | go_num, HO3, HB3⟩
          case measure => first | (simp [intOf]; done) | (simp [intOf]; omega) | decide
        | 1, _ =>
          have HCC := Lib.hid (Kd.C_below HB.out Hb.out)
          have HO : Hid ((Kd.raw 4).R 32 wr w.heap.size (fun _ => True) u6 ra) := HO
          go_wp2_with (first | ((with_reducible refine gate_builtin (b := .append) (xs := #[.tmp 31, .tmp 32]) rfl ?_); at_builtin; refine Kd.R_append_rows (Kd.raw 4) (Rr := (Kd.raw 4).K wr) (w0 := w) w.heap.size rfl (.tmp 31) (.tmp 32) 22 32 (.agg #[(.string ⟨#[]⟩), (.slice none 0 0), (.string ⟨#[]⟩), (.slice none 0 0)]) 80 rfl Tryd.underlying22 info32' rfl (by decide) (by decide) u6 ra rb Ab nb cb (fun _ => True) (fun _ => False) rfl rfl HO.out HCC.out (fun x cs hk => hk) (fun _ hk => hk.elim) (fun _ _ => trivial) Hb.out Hb.out.size (by rw [HA.out.1]; omega) ?_; intro v1 W2 ho2 hb2 hg2 hat2; have HO3 := Lib.hid ho2; have HB3 := Lib.hid hb2; clear ho2 hb2 hg2 hat2; (try dsimp only); (try simp only [Act.put, List.setIfInBounds_toArray, List.set_cons_zero, List.set_cons_succ])))
          go_wp2
          go_roundw
          case rel => exact ⟨2, by omega, by first | rfl | trivial | go_num, HO3, HB3⟩
          case measure => first | (simp [intOf]; done) | (simp [intOf]; omega) | decide
        | 2, _ =>
          have HO : Hid ((Kd.raw 4).R 32 wr w.heap.size (fun _ => True) u6 (ra ++ rb)) := HO
          go_wp2
          go_ret
          exact ⟨_, rfl, HO.out, Hb.out⟩
        | (n + 3), h => omega
    | (n + 3), h => omega
def markB : List S41 → Bool
  | [a] => a.f0.toList == [116, 105, 116, 108, 101] && a.f1.toList == [113, 117, 111, 116, 101, 100]
  | _ => false
theorem eq_mark (l : List S41) : api_Attr.f 2 l [markA] = some (markB l) := by
  unfold api_Attr.f
  match l with
  | [] => simp [markB]
  | [a] =>
    have hw : wrap64 1 = 1 := IntWalk.wrap64_in 1 ⟨by omega, by omega⟩
    have m0 : markA.f0.toList = [116, 105, 116, 108, 101] := by rw [Lib.toList_data]; rfl
    have m1 : markA.f1.toList = [113, 117, 111, 116, 101, 100] := by rw [Lib.toList_data]; rfl
    rw [if_pos (by simp [markA])]
    have e0 : rd_T41 [a] 0 = a := rfl
    have e1 : rd_T41 [markA] 0 = markA := rfl
    rw [api_Attr.l0, if_pos (by simp), if_pos (by omega), if_pos (by simp), if_pos (by simp), e0, e1, m0, m1]
    show (if ((!(a.f0.toList == [116, 105, 116, 108, 101])) || !(a.f1.toList == [113, 117, 111, 116, 101, 100])) = true then some false else api_Attr.l0 1 [a] [markA] (([a].length : Nat) : Int) (wrap64 (0 + 1))) = some (a.f0.toList == [116, 105, 116, 108, 101] && a.f1.toList == [113, 117, 111, 116, 101, 100])
    have e2 : api_Attr.l0 1 [a] [markA] (([a].length : Nat) : Int) (wrap64 (0 + 1)) = some true := by
      rw [show wrap64 (0 + 1) = 1 from hw, api_Attr.l0, if_neg (by simp)]
    rw [e2]
    cases (a.f0.toList == [116, 105, 116, 108, 101]) <;> cases (a.f1.toList == [113, 117, 111, 116, 101, 100]) <;> rfl
  | a :: b :: r => 
    rw [if_neg (by simp; omega)]
    rfl
def isFold (x : S32) : Bool := x.f0.toList == [100, 105, 118] && markB x.f1
def lastN (l : List S32) : S32 := l.getD (l.length - 1) z32
def openL (l : List S32) : List S32 := if l.length = 0 then l else if isFold (lastN l) then l.take (l.length - 1) ++ (lastN l).f3 else l
theorem mark_C {Y : World} {bA : Nat} (hA : Y.heap[bA]? = some (.cells #[.string ⟨#[116, 105, 116, 108, 101]⟩, .string ⟨#[113, 117, 111, 116, 101, 100]⟩] 41 (0, 0))) : Kd.C k41 Y (some ⟨bA, 0, none⟩) 1 [markA] := by
  have g1 : Kd.R k41 41 Y 0 (fun _ => True) (.slice (some ⟨bA, 0, none⟩) 1 1) [markA] := by
    refine ⟨fun _ _ => trivial, [.string ⟨#[116, 105, 116, 108, 101]⟩, .string ⟨#[113, 117, 111, 116, 101, 100]⟩], ⟨rfl, .inr ⟨bA, 1, _, rfl, Nat.zero_le _, hA, Nat.le_refl _, by decide, rfl, rfl⟩⟩, ⟨rfl, fun j p hj => ?_⟩⟩
    rcases j with _ | j
    · cases hj
      exact k41_mkM Y 0 _ markA
    · simp at hj
  exact (Kd.R_reads' g1).2.2
theorem elem_rows {ad : Addr} {cap k : Nat} {l : List S32} {x : S32} {W : World} {base : Nat} {A3 : Option Addr} {c3 : Nat} (h : Kd.R k32 32 W base (fun _ => True) (.slice (some ad) l.length cap) l) (hk : l[k]? = some x)
    (h3 : W.cell? ⟨(ad.add (k * 4)).block, (ad.add (k * 4)).off + 3, none⟩ = some (.slice A3 x.f3.length c3)) :
    ∃ rows rows3 : List (List Value), rows.length = l.length ∧ rows3.length = x.f3.length ∧ Kd.C (Kd.raw 4) W (some ad) l.length rows ∧ Kd.C (Kd.raw 4) W A3 x.f3.length rows3 ∧
      (∀ (j : Nat) (y : S32) (cs : List Value), l[j]? = some y → rows[j]? = some cs → ∃ ok, k32.M W base ok y cs) ∧ (∀ (j : Nat) (y : S32) (cs : List Value), x.f3[j]? = some y → rows3[j]? = some cs → ∃ ok, k32.M W base ok y cs) := by
  obtain ⟨rows, h1, h2, hm⟩ := raw_of_R h
  have hkl : k < l.length := (List.getElem?_eq_some_iff.1 hk).1
  have hkr : k < rows.length := by omega
  have hmk := hm k x _ hk (List.getElem?_eq_getElem hkr)
  obtain ⟨v1, v3, hcs, g1, g3⟩ := k32_openM hmk
  obtain ⟨ad', cs, e, hcl, hK, hcell⟩ := Kd.C_get h2 [] (k : Int) (by omega) (by omega)
  cases e
  have e1 : cs = rows[k] := by
    have h5 : cs = rows.getD (k : Int).toNat [] := hK.1
    rw [h5, Int.toNat_natCast, List.getD_eq_getElem?_getD, List.getElem?_eq_getElem hkr]; rfl
  have e2 : W.cell? (ad.add (k * 4 + 3)) = some v3 := by
    have := hcell 3 v3 (by rw [e1, hcs]; rfl)
    rw [Int.toNat_natCast] at this
    exact this
  rw [add_field _ _ 3 (by omega), h3] at e2
  cases e2
  obtain ⟨rows3, h6, h7, hm3⟩ := raw_of_R (Kd.R_mono g3 (fun _ _ => trivial))
  exact ⟨rows, rows3, h1, h6, h2, h7, fun j y cs hy hc => ⟨_, hm j y cs hy hc⟩, fun j y cs hy hc => ⟨_, hm3 j y cs hy hc⟩⟩
theorem cat_R {W Z : World} {base : Nat} {l m : List S32} {rows rows3 : List (List Value)} {v : Value} (hb : base ≤ W.heap.size) (hZ : Below W.heap.size W Z) (h : (Kd.raw 4).R 32 Z W.heap.size (fun _ => True) v (rows ++ rows3)) (h1 : rows.length = l.length) (h3 : rows3.length = m.length)
    (hm : ∀ (j : Nat) (y : S32) (cs : List Value), l[j]? = some y → rows[j]? = some cs → ∃ ok, k32.M W base ok y cs) (hm3 : ∀ (j : Nat) (y : S32) (cs : List Value), m[j]? = some y → rows3[j]? = some cs → ∃ ok, k32.M W base ok y cs) :
    Kd.R k32 32 Z base (fun _ => True) v (l ++ m) := by
  refine R_of_raw h (by rw [List.length_append, List.length_append, h1, h3]) hb (fun j y cs hy hc => ?_)
  have hv := Kd.R_base h
  by_cases hj : j < l.length
  · rw [List.getElem?_append_left hj] at hy
    rw [List.getElem?_append_left (by omega)] at hc
    obtain ⟨ok, hM⟩ := hm j y cs hy hc
    exact M_old hM hZ hv
  · rw [List.getElem?_append_right (by omega)] at hy
    rw [List.getElem?_append_right (by omega), h1] at hc
    obtain ⟨ok, hM⟩ := hm3 _ y cs hy hc
    exact M_old hM hZ hv
set_option maxHeartbeats 4000000 in
set_option maxRecDepth 100000 in
theorem open_any (A : Option Addr) (c d : Nat) (l : List S32) (w : World) (hr : Kd.C k32 w A l.length l) (hc : l.length ≤ c) (hf : fit d l = true) (hw : FdAt w) :
    Calls Tryd.prog 16 #[.slice A l.length c] w (CopPost w (openL l)) := by
  have hu32 := Tryd.underlying32
  have hlen := fit_len hf
  have HW := Lib.hid hw
  have HFIT := Lib.hid hf
  have HCO := Lib.hid (copied_any d A c l w hr hc hf)
  clear hr hw hf
  go_enter Tryd.func16, Tryd.ntmps16
  go_wp2_with fail
  refine HCO.out.mono ?_
  rintro e W1 ⟨v, rfl, hv, hb⟩
  obtain ⟨A', cap, rfl⟩ := Kd.R_slice hv
  obtain ⟨_, hcap, hC⟩ := Kd.R_reads' hv
  have HV := Lib.hid hv
  have HB1 := Lib.hid hb
  have HW1 := Lib.hid (HW.out.below hb (Nat.le_refl _))
  have HC := Lib.hid hC
  clear hv hb hC HCO
  dsimp only
  go_wp2_with fail
  have HS1 := Lib.hid (fun (Wc : World) (hb : Below W1.heap.size W1 Wc) => (⟨(hb.cell (World.block_lt_of_cell? _ _ HW1.out.2.1)).trans HW1.out.2.1, (hb.cell (World.block_lt_of_cell? _ _ HW1.out.2.2)).trans HW1.out.2.2⟩ : Wc.cell? ⟨0, 0, none⟩ = some (.string ⟨#[116, 105, 116, 108, 101]⟩) ∧ Wc.cell? ⟨0, 1, none⟩ = some (.string ⟨#[113, 117, 111, 116, 101, 100]⟩)))
  by_cases h0 : l.length = 0
  · have HO : Hid (openL l = l) := Lib.hid (by unfold openL; rw [if_pos h0])
    have hm : (l.length : Int) - 1 = -1 := by omega
    rw [hm]
    refine wp_region_held_drew (S := fun W' => W'.cell? ⟨0, 0, none⟩ = some (.string ⟨#[116, 105, 116, 108, 101]⟩) ∧ W'.cell? ⟨0, 1, none⟩ = some (.string ⟨#[113, 117, 111, 116, 101, 100]⟩)) (by kernel_rfl) (HS1.out _ (Below.refl _ _).drew) (fun hHeld => ?_)
    refine take_h (i := 0) (N := some 9) (v := ?_) (a' := ?_) rfl rfl (by kernel_rfl) (by kernel_rfl) (by kernel_rfl) (fun _ _ _ h => h) (Or.inl ⟨by rfl, ?_⟩) (by with_reducible assumption) ?_ ?_
    rotate_left 2
    · intro w' hSw
      try dsimp only at hSw
      go_simp
      try with_reducible rfl
    · simp only [Act.put, List.setIfInBounds_toArray, List.set_cons_zero, List.set_cons_succ]
      rfl
    refine take_h (i := 1) (N := some 10) (v := ?_) (a' := ?_) rfl rfl (by kernel_rfl) (by kernel_rfl) (by kernel_rfl) (fun _ _ _ h => h) (Or.inl ⟨by rfl, ?_⟩) (by with_reducible assumption) ?_ ?_
    rotate_left 2
    · intro w' hSw
      try dsimp only at hSw
      go_simp
      try with_reducible rfl
    · simp only [Act.put, List.setIfInBounds_toArray, List.set_cons_zero, List.set_cons_succ]
      rfl
    refine take_h (i := 2) (N := some 11) (v := ?_) (a' := ?_) rfl rfl (by kernel_rfl) (by kernel_rfl) (by kernel_rfl) (fun _ _ _ h => h) (Or.inl ⟨by rfl, ?_⟩) (by with_reducible assumption) ?_ ?_
    rotate_left 2
    · intro w' hSw
      try dsimp only at hSw
      go_simp
      try with_reducible rfl
    · simp only [Act.put, List.setIfInBounds_toArray, List.set_cons_zero, List.set_cons_succ]
      rfl
    refine take_h (i := 3) (N := some 12) (v := undef) (a' := ?_) rfl rfl (by kernel_rfl) (by kernel_rfl) (by kernel_rfl) (fun _ _ _ h => h) (Or.inr ⟨by rfl, rfl⟩) (by with_reducible assumption) ?_ ?_
    rotate_left 1
    · simp only [Act.put, List.setIfInBounds_toArray, List.set_cons_zero, List.set_cons_succ]
      rfl
    refine take_h (i := 4) (N := some 13) (v := undef) (a' := ?_) rfl rfl (by kernel_rfl) (by kernel_rfl) (by kernel_rfl) (fun _ _ _ h => h) (Or.inr ⟨by rfl, rfl⟩) (by with_reducible assumption) ?_ ?_
    rotate_left 1
    · simp only [Act.put, List.setIfInBounds_toArray, List.set_cons_zero, List.set_cons_succ]
      rfl
    refine take_h (i := 5) (N := some 14) (v := undef) (a' := ?_) rfl rfl (by kernel_rfl) (by kernel_rfl) (by kernel_rfl) (fun _ _ _ h => h) (Or.inr ⟨by rfl, rfl⟩) (by with_reducible assumption) ?_ ?_
    rotate_left 1
    · simp only [Act.put, List.setIfInBounds_toArray, List.set_cons_zero, List.set_cons_succ]
      rfl
    refine take_h (i := 6) (N := some 15) (v := undef) (a' := ?_) rfl rfl (by kernel_rfl) (by kernel_rfl) (by kernel_rfl) (fun _ _ _ h => h) (Or.inr ⟨by rfl, rfl⟩) (by with_reducible assumption) ?_ ?_
    rotate_left 1
    · simp only [Act.put, List.setIfInBounds_toArray, List.set_cons_zero, List.set_cons_succ]
      rfl
    refine take_h (i := 7) (N := some 16) (v := undef) (a' := ?_) rfl rfl (by kernel_rfl) (by kernel_rfl) (by kernel_rfl) (fun _ _ _ h => h) (Or.inr ⟨by rfl, rfl⟩) (by with_reducible assumption) ?_ ?_
    rotate_left 1
    · simp only [Act.put, List.setIfInBounds_toArray, List.set_cons_zero, List.set_cons_succ]
      rfl
    refine take_h (i := 8) (N := some 17) (v := undef) (a' := ?_) rfl rfl (by kernel_rfl) (by kernel_rfl) (by kernel_rfl) (fun _ _ _ h => h) (Or.inr ⟨by rfl, rfl⟩) (by with_reducible assumption) ?_ ?_
    rotate_left 1
    · simp only [Act.put, List.setIfInBounds_toArray, List.set_cons_zero, List.set_cons_succ]
      rfl
    refine take_h (i := 9) (N := some 18) (v := ?_) (a' := ?_) rfl rfl (by kernel_rfl) (by kernel_rfl) (by kernel_rfl) (fun _ _ _ h => h) (Or.inl ⟨by rfl, ?_⟩) (by with_reducible assumption) ?_ ?_
    rotate_left 2
    · intro w' hSw
      try dsimp only at hSw
      go_simp
      try with_reducible rfl
    · simp only [Act.put, List.setIfInBounds_toArray, List.set_cons_zero, List.set_cons_succ]
      rfl
    refine take_h (i := 10) (N := some 19) (v := ?_) (a' := ?_) rfl rfl (by kernel_rfl) (by kernel_rfl) (by kernel_rfl) (fun _ _ _ h => h) (Or.inl ⟨by rfl, ?_⟩) (by with_reducible assumption) ?_ ?_
    rotate_left 2
    · intro w' hSw
      try dsimp only at hSw
      go_simp
      try with_reducible rfl
    · simp only [Act.put, List.setIfInBounds_toArray, List.set_cons_zero, List.set_cons_succ]
      rfl
    refine take_h (i := 11) (N := some 20) (v := undef) (a' := ?_) rfl rfl (by kernel_rfl) (by kernel_rfl) (by kernel_rfl) (fun _ _ _ h => h) (Or.inr ⟨by rfl, rfl⟩) (by with_reducible assumption) ?_ ?_
    rotate_left 1
    · simp only [Act.put, List.setIfInBounds_toArray, List.set_cons_zero, List.set_cons_succ]
      rfl
    refine take_h (i := 12) (N := some 21) (v := undef) (a' := ?_) rfl rfl (by kernel_rfl) (by kernel_rfl) (by kernel_rfl) (fun _ _ _ h => h) (Or.inr ⟨by rfl, rfl⟩) (by with_reducible assumption) ?_ ?_
    rotate_left 1
    · simp only [Act.put, List.setIfInBounds_toArray, List.set_cons_zero, List.set_cons_succ]
      rfl
    refine take_h (i := 13) (N := some 22) (v := undef) (a' := ?_) rfl rfl (by kernel_rfl) (by kernel_rfl) (by kernel_rfl) (fun _ _ _ h => h) (Or.inr ⟨by rfl, rfl⟩) (by with_reducible assumption) ?_ ?_
    rotate_left 1
    · simp only [Act.put, List.setIfInBounds_toArray, List.set_cons_zero, List.set_cons_succ]
      rfl
    refine take_h (i := 14) (N := some 23) (v := undef) (a' := ?_) rfl rfl (by kernel_rfl) (by kernel_rfl) (by kernel_rfl) (fun _ _ _ h => h) (Or.inr ⟨by rfl, rfl⟩) (by with_reducible assumption) ?_ ?_
    rotate_left 1
    · simp only [Act.put, List.setIfInBounds_toArray, List.set_cons_zero, List.set_cons_succ]
      rfl
    refine take_h (i := 15) (N := some 24) (v := undef) (a' := ?_) rfl rfl (by kernel_rfl) (by kernel_rfl) (by kernel_rfl) (fun _ _ _ h => h) (Or.inr ⟨by rfl, rfl⟩) (by with_reducible assumption) ?_ ?_
    rotate_left 1
    · simp only [Act.put, List.setIfInBounds_toArray, List.set_cons_zero, List.set_cons_succ]
      rfl
    refine take_h (i := 16) (N := some 25) (v := undef) (a' := ?_) rfl rfl (by kernel_rfl) (by kernel_rfl) (by kernel_rfl) (fun _ _ _ h => h) (Or.inr ⟨by rfl, rfl⟩) (by with_reducible assumption) ?_ ?_
    rotate_left 1
    · simp only [Act.put, List.setIfInBounds_toArray, List.set_cons_zero, List.set_cons_succ]
      rfl
    refine take_h (i := 17) (N := some 26) (v := undef) (a' := ?_) rfl rfl (by kernel_rfl) (by kernel_rfl) (by kernel_rfl) (fun _ _ _ h => h) (Or.inr ⟨by rfl, rfl⟩) (by with_reducible assumption) ?_ ?_
    rotate_left 1
    · simp only [Act.put, List.setIfInBounds_toArray, List.set_cons_zero, List.set_cons_succ]
      rfl
    refine take_h (i := 18) (N := some 27) (v := undef) (a' := ?_) rfl rfl (by kernel_rfl) (by kernel_rfl) (by kernel_rfl) (fun _ _ _ h => h) (Or.inr ⟨by rfl, rfl⟩) (by with_reducible assumption) ?_ ?_
    rotate_left 1
    · simp only [Act.put, List.setIfInBounds_toArray, List.set_cons_zero, List.set_cons_succ]
      rfl
    refine take_h (i := 19) (N := some 28) (v := undef) (a' := ?_) rfl rfl (by kernel_rfl) (by kernel_rfl) (by kernel_rfl) (fun _ _ _ h => h) (Or.inr ⟨by rfl, rfl⟩) (by with_reducible assumption) ?_ ?_
    rotate_left 1
    · simp only [Act.put, List.setIfInBounds_toArray, List.set_cons_zero, List.set_cons_succ]
      rfl
    refine take_h (i := 20) (N := some 29) (v := ?_) (a' := ?_) rfl rfl (by kernel_rfl) (by kernel_rfl) (by kernel_rfl) (fun _ _ _ h => h) (Or.inl ⟨by rfl, ?_⟩) (by with_reducible assumption) ?_ ?_
    rotate_left 2
    · intro w' hSw
      try dsimp only at hSw
      go_simp
      try with_reducible rfl
    · simp only [Act.put, List.setIfInBounds_toArray, List.set_cons_zero, List.set_cons_succ]
      rfl
    refine wpAnyH_done (by kernel_rfl) ?_ _
    clear hHeld
    go_wp2
    go_ret
    exact ⟨_, rfl, by rw [HO.out]; exact Kd.R_below HV.out (Below.refl _ _).drew, HB1.out.drew⟩
  · obtain ⟨k, hk⟩ : ∃ k, l.length = k + 1 := ⟨l.length - 1, by omega⟩
    have hm : (l.length : Int) - 1 = (k : Int) := by omega
    have hk0 : (0 : Int) ≤ (k : Int) := by omega
    have hk1 : (k : Int) < (l.length : Int) := by omega
    have hk2 : (k : Int) ≤ (l.length : Int) := by omega
    have hk3 : (k : Int) ≤ (cap : Int) := by omega
    have hneg : ¬ (k : Int) < 0 := by omega
    rw [hm]
    obtain ⟨ad, A1, c1, A3, c3, e, hx0, hx1, hx2, hx3, l1, g1, l3, g3⟩ := at_T32 HC.out (k : Int) hk0 hk1
    subst e
    have hrd : rd_T32 l (k : Int) = lastN l := by unfold rd_T32 lastN; rw [Int.toNat_natCast, hk, Nat.add_sub_cancel]
    rw [hrd] at hx0 hx1 hx2 hx3 l1 g1 l3 g3
    simp only [Int.toNat_natCast] at hx0 hx1 hx2 hx3
    have HOP : Hid (openL l = if isFold (lastN l) then l.take k ++ (lastN l).f3 else l) := Lib.hid (by unfold openL; rw [if_neg h0, hk, Nat.add_sub_cancel])
    have HIF : Hid (isFold (lastN l) = ((lastN l).f0.toList == [100, 105, 118] && markB (lastN l).f1)) := Lib.hid rfl
    have HEL : Hid (l[k]? = some (lastN l)) := Lib.hid (by unfold lastN; rw [hk, Nat.add_sub_cancel, getD_get (by omega), List.getElem?_eq_getElem (by omega)])
    have HL1 := Lib.hid (And.intro l1 g1)
    have HL3 := Lib.hid (And.intro l3 g3)
    have HX3 := Lib.hid hx3
    have HK := Lib.hid hk
    clear hrd l1 g1 l3 g3 h0 hm hx2 hx3 hk
    generalize lastN l = x at *
    have HSX := Lib.hid (fun (Wc : World) (hb : Below W1.heap.size W1 Wc) => (⟨(HS1.out Wc hb).1, (HS1.out Wc hb).2, (hb.cell (World.block_lt_of_cell? _ _ hx0)).trans hx0, (hb.cell (World.block_lt_of_cell? _ _ hx1)).trans hx1⟩ : Wc.cell? ⟨0, 0, none⟩ = some (.string ⟨#[116, 105, 116, 108, 101]⟩) ∧ Wc.cell? ⟨0, 1, none⟩ = some (.string ⟨#[113, 117, 111, 116, 101, 100]⟩) ∧ Wc.cell? (ad.add (k * 4)) = some (.string x.f0) ∧ Wc.cell? ⟨(ad.add (k * 4)).block, (ad.add (k * 4)).off + 1, none⟩ = some (.slice A1 x.f1.length c1)))
    clear hx0 hx1
    refine wp_region_held_drew (S := fun W' => W'.cell? ⟨0, 0, none⟩ = some (.string ⟨#[116, 105, 116, 108, 101]⟩) ∧ W'.cell? ⟨0, 1, none⟩ = some (.string ⟨#[113, 117, 111, 116, 101, 100]⟩) ∧ W'.cell? (ad.add (k * 4)) = some (.string x.f0) ∧ W'.cell? ⟨(ad.add (k * 4)).block, (ad.add (k * 4)).off + 1, none⟩ = some (.slice A1 x.f1.length c1)) (by kernel_rfl) (HSX.out _ (Below.refl _ _).drew) (fun hHeld => ?_)
    refine take_h (i := 0) (N := some 9) (v := ?_) (a' := ?_) rfl rfl (by kernel_rfl) (by kernel_rfl) (by kernel_rfl) (fun _ _ _ h => h) (Or.inl ⟨by rfl, ?_⟩) (by with_reducible assumption) ?_ ?_
    rotate_left 2
    · intro w' hSw
      try dsimp only at hSw
      go_simp
      try with_reducible rfl
    · simp only [Act.put, List.setIfInBounds_toArray, List.set_cons_zero, List.set_cons_succ]
      rfl
    refine take_h (i := 1) (N := some 10) (v := ?_) (a' := ?_) rfl rfl (by kernel_rfl) (by kernel_rfl) (by kernel_rfl) (fun _ _ _ h => h) (Or.inl ⟨by rfl, ?_⟩) (by with_reducible assumption) ?_ ?_
    rotate_left 2
    · intro w' hSw
      try dsimp only at hSw
      go_simp
      try with_reducible rfl
    · simp only [Act.put, List.setIfInBounds_toArray, List.set_cons_zero, List.set_cons_succ]
      rfl
    refine take_h (i := 2) (N := some 11) (v := ?_) (a' := ?_) rfl rfl (by kernel_rfl) (by kernel_rfl) (by kernel_rfl) (fun _ _ _ h => h) (Or.inl ⟨by rfl, ?_⟩) (by with_reducible assumption) ?_ ?_
    rotate_left 2
    · intro w' hSw
      try dsimp only at hSw
      go_simp
      try with_reducible rfl
    · simp only [Act.put, List.setIfInBounds_toArray, List.set_cons_zero, List.set_cons_succ]
      rfl
    refine take_h (i := 3) (N := some 12) (v := ?_) (a' := ?_) rfl rfl (by kernel_rfl) (by kernel_rfl) (by kernel_rfl) (fun _ _ _ h => h) (Or.inl ⟨by rfl, ?_⟩) (by with_reducible assumption) ?_ ?_
    rotate_left 2
    · intro w' hSw
      try dsimp only at hSw
      go_simp
      try with_reducible rfl
    · simp only [Act.put, List.setIfInBounds_toArray, List.set_cons_zero, List.set_cons_succ]
      rfl
    refine take_h (i := 4) (N := some 13) (v := ?_) (a' := ?_) rfl rfl (by kernel_rfl) (by kernel_rfl) (by kernel_rfl) (fun _ _ _ h => h) (Or.inl ⟨by rfl, ?_⟩) (by with_reducible assumption) ?_ ?_
    rotate_left 2
    · intro w' hSw
      try dsimp only at hSw
      go_simp
      try with_reducible rfl
    · simp only [Act.put, List.setIfInBounds_toArray, List.set_cons_zero, List.set_cons_succ]
      rfl
    refine take_h (i := 5) (N := some 14) (v := ?_) (a' := ?_) rfl rfl (by kernel_rfl) (by kernel_rfl) (by kernel_rfl) (fun _ _ _ h => h) (Or.inl ⟨by rfl, ?_⟩) (by with_reducible assumption) ?_ ?_
    rotate_left 2
    · intro w' hSw
      try dsimp only at hSw
      go_simp
      try with_reducible rfl
    · simp only [Act.put, List.setIfInBounds_toArray, List.set_cons_zero, List.set_cons_succ]
      rfl
    refine take_h (i := 6) (N := some 15) (v := ?_) (a' := ?_) rfl rfl (by kernel_rfl) (by kernel_rfl) (by kernel_rfl) (fun _ _ _ h => h) (Or.inl ⟨by rfl, ?_⟩) (by with_reducible assumption) ?_ ?_
    rotate_left 2
    · intro w' hSw
      try dsimp only at hSw
      go_simp
      try with_reducible rfl
    · simp only [Act.put, List.setIfInBounds_toArray, List.set_cons_zero, List.set_cons_succ]
      rfl
    cases hnm : (x.f0.toList == [100, 105, 118]) with
    | false =>
      have hO : openL l = l := by rw [HOP.out, HIF.out, hnm]; rfl
      have HO := Lib.hid hO
      clear hO
      refine take_h (i := 7) (N := some 16) (v := ?_) (a' := ?_) rfl rfl (by kernel_rfl) (by kernel_rfl) (by kernel_rfl) (fun _ _ _ h => h) (Or.inl ⟨by rfl, ?_⟩) (by with_reducible assumption) ?_ ?_
      rotate_left 2
      · intro w' hSw
        try dsimp only at hSw
        go_simp
        try with_reducible rfl
      · simp only [Act.put, List.setIfInBounds_toArray, List.set_cons_zero, List.set_cons_succ]
        rfl
      refine take_h (i := 8) (N := some 17) (v := ?_) (a' := ?_) rfl rfl (by kernel_rfl) (by kernel_rfl) (by kernel_rfl) (fun _ _ _ h => h) (Or.inl ⟨by rfl, ?_⟩) (by with_reducible assumption) ?_ ?_
      rotate_left 2
      · intro w' hSw
        try dsimp only at hSw
        go_simp
        try with_reducible rfl
      · simp only [Act.put, List.setIfInBounds_toArray, List.set_cons_zero, List.set_cons_succ]
        rfl
      refine take_h (i := 9) (N := some 18) (v := ?_) (a' := ?_) rfl rfl (by kernel_rfl) (by kernel_rfl) (by kernel_rfl) (fun _ _ _ h => h) (Or.inl ⟨by rfl, ?_⟩) (by with_reducible assumption) ?_ ?_
      rotate_left 2
      · intro w' hSw
        try dsimp only at hSw
        go_simp
        try with_reducible rfl
      · simp only [Act.put, List.setIfInBounds_toArray, List.set_cons_zero, List.set_cons_succ]
        rfl
      refine take_h (i := 10) (N := some 19) (v := ?_) (a' := ?_) rfl rfl (by kernel_rfl) (by kernel_rfl) (by kernel_rfl) (fun _ _ _ h => h) (Or.inl ⟨by rfl, ?_⟩) (by with_reducible assumption) ?_ ?_
      rotate_left 2
      · intro w' hSw
        try dsimp only at hSw
        go_simp
        try with_reducible rfl
      · simp only [Act.put, List.setIfInBounds_toArray, List.set_cons_zero, List.set_cons_succ]
        rfl
      refine take_h (i := 11) (N := some 20) (v := undef) (a' := ?_) rfl rfl (by kernel_rfl) (by kernel_rfl) (by kernel_rfl) (fun _ _ _ h => h) (Or.inr ⟨by rfl, rfl⟩) (by with_reducible assumption) ?_ ?_
      rotate_left 1
      · simp only [Act.put, List.setIfInBounds_toArray, List.set_cons_zero, List.set_cons_succ]
        rfl
      refine take_h (i := 12) (N := some 21) (v := undef) (a' := ?_) rfl rfl (by kernel_rfl) (by kernel_rfl) (by kernel_rfl) (fun _ _ _ h => h) (Or.inr ⟨by rfl, rfl⟩) (by with_reducible assumption) ?_ ?_
      rotate_left 1
      · simp only [Act.put, List.setIfInBounds_toArray, List.set_cons_zero, List.set_cons_succ]
        rfl
      refine take_h (i := 13) (N := some 22) (v := undef) (a' := ?_) rfl rfl (by kernel_rfl) (by kernel_rfl) (by kernel_rfl) (fun _ _ _ h => h) (Or.inr ⟨by rfl, rfl⟩) (by with_reducible assumption) ?_ ?_
      rotate_left 1
      · simp only [Act.put, List.setIfInBounds_toArray, List.set_cons_zero, List.set_cons_succ]
        rfl
      refine take_h (i := 14) (N := some 23) (v := undef) (a' := ?_) rfl rfl (by kernel_rfl) (by kernel_rfl) (by kernel_rfl) (fun _ _ _ h => h) (Or.inr ⟨by rfl, rfl⟩) (by with_reducible assumption) ?_ ?_
      rotate_left 1
      · simp only [Act.put, List.setIfInBounds_toArray, List.set_cons_zero, List.set_cons_succ]
        rfl
      refine take_h (i := 15) (N := some 24) (v := undef) (a' := ?_) rfl rfl (by kernel_rfl) (by kernel_rfl) (by kernel_rfl) (fun _ _ _ h => h) (Or.inr ⟨by rfl, rfl⟩) (by with_reducible assumption) ?_ ?_
      rotate_left 1
      · simp only [Act.put, List.setIfInBounds_toArray, List.set_cons_zero, List.set_cons_succ]
        rfl
      refine take_h (i := 16) (N := some 25) (v := undef) (a' := ?_) rfl rfl (by kernel_rfl) (by kernel_rfl) (by kernel_rfl) (fun _ _ _ h => h) (Or.inr ⟨by rfl, rfl⟩) (by with_reducible assumption) ?_ ?_
      rotate_left 1
      · simp only [Act.put, List.setIfInBounds_toArray, List.set_cons_zero, List.set_cons_succ]
        rfl
      refine take_h (i := 17) (N := some 26) (v := undef) (a' := ?_) rfl rfl (by kernel_rfl) (by kernel_rfl) (by kernel_rfl) (fun _ _ _ h => h) (Or.inr ⟨by rfl, rfl⟩) (by with_reducible assumption) ?_ ?_
      rotate_left 1
      · simp only [Act.put, List.setIfInBounds_toArray, List.set_cons_zero, List.set_cons_succ]
        rfl
      refine take_h (i := 18) (N := some 27) (v := undef) (a' := ?_) rfl rfl (by kernel_rfl) (by kernel_rfl) (by kernel_rfl) (fun _ _ _ h => h) (Or.inr ⟨by rfl, rfl⟩) (by with_reducible assumption) ?_ ?_
      rotate_left 1
      · simp only [Act.put, List.setIfInBounds_toArray, List.set_cons_zero, List.set_cons_succ]
        rfl
      refine take_h (i := 19) (N := some 28) (v := undef) (a' := ?_) rfl rfl (by kernel_rfl) (by kernel_rfl) (by kernel_rfl) (fun _ _ _ h => h) (Or.inr ⟨by rfl, rfl⟩) (by with_reducible assumption) ?_ ?_
      rotate_left 1
      · simp only [Act.put, List.setIfInBounds_toArray, List.set_cons_zero, List.set_cons_succ]
        rfl
      refine take_h (i := 20) (N := some 29) (v := ?_) (a' := ?_) rfl rfl (by kernel_rfl) (by kernel_rfl) (by kernel_rfl) (fun _ _ _ h => h) (Or.inl ⟨by rfl, ?_⟩) (by with_reducible assumption) ?_ ?_
      rotate_left 2
      · intro w' hSw
        try dsimp only at hSw
        go_simp
        try with_reducible rfl
      · simp only [Act.put, List.setIfInBounds_toArray, List.set_cons_zero, List.set_cons_succ]
        rfl
      refine wpAnyH_done (by kernel_rfl) ?_ _
      clear hHeld
      go_wp2
      go_ret
      exact ⟨_, rfl, by rw [HO.out]; exact Kd.R_below HV.out (Below.refl _ _).drew, HB1.out.drew⟩
    | true =>
      refine take_h (i := 7) (N := some 16) (v := ?_) (a' := ?_) rfl rfl (by kernel_rfl) (by kernel_rfl) (by kernel_rfl) (fun _ _ _ h => h) (Or.inl ⟨by rfl, ?_⟩) (by with_reducible assumption) ?_ ?_
      rotate_left 2
      · intro w' hSw
        try dsimp only at hSw
        go_simp
        try with_reducible rfl
      · simp only [Act.put, List.setIfInBounds_toArray, List.set_cons_zero, List.set_cons_succ]
        rfl
      refine take_h (i := 8) (N := some 17) (v := ?_) (a' := ?_) rfl rfl (by kernel_rfl) (by kernel_rfl) (by kernel_rfl) (fun _ _ _ h => h) (Or.inl ⟨by rfl, ?_⟩) (by with_reducible assumption) ?_ ?_
      rotate_left 2
      · intro w' hSw
        try dsimp only at hSw
        go_simp
        try with_reducible rfl
      · simp only [Act.put, List.setIfInBounds_toArray, List.set_cons_zero, List.set_cons_succ]
        rfl
      refine take_h (i := 9) (N := some 18) (v := ?_) (a' := ?_) rfl rfl (by kernel_rfl) (by kernel_rfl) (by kernel_rfl) (fun _ _ _ h => h) (Or.inl ⟨by rfl, ?_⟩) (by with_reducible assumption) ?_ ?_
      rotate_left 2
      · intro w' hSw
        try dsimp only at hSw
        go_simp
        try with_reducible rfl
      · simp only [Act.put, List.setIfInBounds_toArray, List.set_cons_zero, List.set_cons_succ]
        rfl
      refine take_h (i := 10) (N := some 19) (v := ?_) (a' := ?_) rfl rfl (by kernel_rfl) (by kernel_rfl) (by kernel_rfl) (fun _ _ _ h => h) (Or.inl ⟨by rfl, ?_⟩) (by with_reducible assumption) ?_ ?_
      rotate_left 2
      · intro w' hSw
        try dsimp only at hSw
        go_simp
        try with_reducible rfl
      · simp only [Act.put, List.setIfInBounds_toArray, List.set_cons_zero, List.set_cons_succ]
        rfl
      refine take_h (i := 11) (N := some 20) (v := ?_) (a' := ?_) rfl rfl (by kernel_rfl) (by kernel_rfl) (by kernel_rfl) (fun _ _ _ h => h) (Or.inl ⟨by rfl, ?_⟩) (by with_reducible assumption) ?_ ?_
      rotate_left 2
      · intro w' hSw
        try dsimp only at hSw
        go_simp
        try with_reducible rfl
      · simp only [Act.put, List.setIfInBounds_toArray, List.set_cons_zero, List.set_cons_succ]
        rfl
      refine take_h (i := 12) (N := some 21) (v := ?_) (a' := ?_) rfl rfl (by kernel_rfl) (by kernel_rfl) (by kernel_rfl) (fun _ _ _ h => h) (Or.inl ⟨by rfl, ?_⟩) (by with_reducible assumption) ?_ ?_
      rotate_left 2
      · intro w' hSw
        try dsimp only at hSw
        go_simp
        try with_reducible rfl
      · simp only [Act.put, List.setIfInBounds_toArray, List.set_cons_zero, List.set_cons_succ]
        rfl
      refine take_h (i := 13) (N := some 22) (v := ?_) (a' := ?_) rfl rfl (by kernel_rfl) (by kernel_rfl) (by kernel_rfl) (fun _ _ _ h => h) (Or.inl ⟨by rfl, ?_⟩) (by with_reducible assumption) ?_ ?_
      rotate_left 2
      · intro w' hSw
        try dsimp only at hSw
        go_simp
        try with_reducible rfl
      · simp only [Act.put, List.setIfInBounds_toArray, List.set_cons_zero, List.set_cons_succ]
        rfl
      refine take_h (i := 14) (N := some 23) (v := ?_) (a' := ?_) rfl rfl (by kernel_rfl) (by kernel_rfl) (by kernel_rfl) (fun _ _ _ h => h) (Or.inl ⟨by rfl, ?_⟩) (by with_reducible assumption) ?_ ?_
      rotate_left 2
      · intro w' hSw
        try dsimp only at hSw
        go_simp
        try with_reducible rfl
      · simp only [Act.put, List.setIfInBounds_toArray, List.set_cons_zero, List.set_cons_succ]
        rfl
      refine take_h (i := 15) (N := some 24) (v := ?_) (a' := ?_) rfl rfl (by kernel_rfl) (by kernel_rfl) (by kernel_rfl) (fun _ _ _ h => h) (Or.inl ⟨by rfl, ?_⟩) (by with_reducible assumption) ?_ ?_
      rotate_left 2
      · intro w' hSw
        try dsimp only at hSw
        go_simp
        try with_reducible rfl
      · simp only [Act.put, List.setIfInBounds_toArray, List.set_cons_zero, List.set_cons_succ]
        rfl
      refine take_h (i := 16) (N := some 25) (v := ?_) (a' := ?_) rfl rfl (by kernel_rfl) (by kernel_rfl) (by kernel_rfl) (fun _ _ _ h => h) (Or.inl ⟨by rfl, ?_⟩) (by with_reducible assumption) ?_ ?_
      rotate_left 2
      · intro w' hSw
        try dsimp only at hSw
        go_simp
        try with_reducible rfl
      · simp only [Act.put, List.setIfInBounds_toArray, List.set_cons_zero, List.set_cons_succ]
        rfl
      have HBc : Hid (Below W1.heap.size W1 W1.drew) := Lib.hid (Below.refl _ _).drew
      generalize hX0 : W1.drew = X0 at HBc hHeld ⊢
      clear hX0
      refine wpAnyH_ready (rs := [17]) (by kernel_rfl) (by simp) (AllReadyH.cons rfl (fun K hK => ?_) AllReadyH.nil)
      go_simp
      have HN := Lib.hid (heap_alloc_new X0 (.cells #[.string ⟨#[116, 105, 116, 108, 101]⟩, .string ⟨#[113, 117, 111, 116, 101, 100]⟩] 41))
      have HB2 : Hid (Below W1.heap.size W1 (X0.alloc (.cells #[.string ⟨#[116, 105, 116, 108, 101]⟩, .string ⟨#[113, 117, 111, 116, 101, 100]⟩] 41))) := Lib.hid (HBc.out.alloc HBc.out.size _)
      refine hK.out _ _ (HSX.out _ HB2.out) (fun hHeld => ?_)
      clear hK K HBc
      try simp only [Act.put, List.setIfInBounds_toArray, List.set_cons_zero, List.set_cons_succ]
      generalize X0.alloc (.cells #[.string ⟨#[116, 105, 116, 108, 101]⟩, .string ⟨#[113, 117, 111, 116, 101, 100]⟩] 41) = X1 at *
      generalize X0.heap.size = bA at *
      refine wpAnyH_ready (rs := [18]) (by kernel_rfl) (by simp) (AllReadyH.cons rfl (fun K hK => ?_) AllReadyH.nil)
      go_simp
      refine (api_Attr.calls 2 A1 c1 x.f1 (some ⟨bA, 0, none⟩) 1 [markA] (markB x.f1) X1 (Kd.C_below HL1.out.2 HB2.out) HL1.out.1 (mark_C HN.out) (Nat.le_refl _) (eq_mark _)).mono ?_
      rintro e X2 ⟨rfl, hdr⟩
      have HB3 : Hid (Below W1.heap.size W1 X2) := Lib.hid (HB2.out.trans (hdr.below.mono HB2.out.size))
      clear hdr
      dsimp only
      refine hK.out _ _ (HSX.out _ HB3.out) (fun hHeld => ?_)
      clear hK K
      try simp only [Act.put, List.setIfInBounds_toArray, List.set_cons_zero, List.set_cons_succ]
      have HIF2 : Hid (isFold x = markB x.f1) := Lib.hid (by rw [HIF.out, hnm]; rfl)
      clear HN HB2
      cases hmk : markB x.f1 with
      | false =>
        have hO : openL l = l := by rw [HOP.out, HIF2.out, hmk]; rfl
        have HO := Lib.hid hO
        clear hO
        refine take_h (i := 19) (N := some 28) (v := ?_) (a' := ?_) rfl rfl (by kernel_rfl) (by kernel_rfl) (by kernel_rfl) (fun _ _ _ h => h) (Or.inl ⟨by rfl, ?_⟩) (by with_reducible assumption) ?_ ?_
        rotate_left 2
        · intro w' hSw
          try dsimp only at hSw
          go_simp
          try with_reducible rfl
        · simp only [Act.put, List.setIfInBounds_toArray, List.set_cons_zero, List.set_cons_succ]
          rfl
        refine take_h (i := 20) (N := some 29) (v := ?_) (a' := ?_) rfl rfl (by kernel_rfl) (by kernel_rfl) (by kernel_rfl) (fun _ _ _ h => h) (Or.inl ⟨by rfl, ?_⟩) (by with_reducible assumption) ?_ ?_
        rotate_left 2
        · intro w' hSw
          try dsimp only at hSw
          go_simp
          try with_reducible rfl
        · simp only [Act.put, List.setIfInBounds_toArray, List.set_cons_zero, List.set_cons_succ]
          rfl
        refine wpAnyH_done (by kernel_rfl) ?_ _
        clear hHeld
        go_wp2
        go_ret
        exact ⟨_, rfl, by rw [HO.out]; exact Kd.R_below HV.out HB3.out, HB1.out.trans (HB3.out.mono HB1.out.size)⟩
      | true =>
        have hO : openL l = l.take k ++ x.f3 := by rw [HOP.out, HIF2.out, hmk]; rfl
        have HO := Lib.hid hO
        clear hO
        refine take_h (i := 19) (N := some 28) (v := ?_) (a' := ?_) rfl rfl (by kernel_rfl) (by kernel_rfl) (by kernel_rfl) (fun _ _ _ h => h) (Or.inl ⟨by rfl, ?_⟩) (by with_reducible assumption) ?_ ?_
        rotate_left 2
        · intro w' hSw
          try dsimp only at hSw
          go_simp
          try with_reducible rfl
        · simp only [Act.put, List.setIfInBounds_toArray, List.set_cons_zero, List.set_cons_succ]
          rfl
        refine take_h (i := 20) (N := some 29) (v := ?_) (a' := ?_) rfl rfl (by kernel_rfl) (by kernel_rfl) (by kernel_rfl) (fun _ _ _ h => h) (Or.inl ⟨by rfl, ?_⟩) (by with_reducible assumption) ?_ ?_
        rotate_left 2
        · intro w' hSw
          try dsimp only at hSw
          go_simp
          try with_reducible rfl
        · simp only [Act.put, List.setIfInBounds_toArray, List.set_cons_zero, List.set_cons_succ]
          rfl
        refine wpAnyH_done (by kernel_rfl) ?_ _
        clear hHeld
        go_wp2_with fail
        obtain ⟨rows, rows3, hr1, hr3, hC1, hC3, hM1, hM3⟩ := elem_rows HV.out HEL.out HX3.out
        have HRL := Lib.hid (And.intro hr1 hr3)
        have HRC := Lib.hid (And.intro hC1 hC3)
        have HRM := Lib.hid (And.intro hM1 hM3)
        have hk3l : x.f3.length ≤ 1000 := by
          cases d with
          | zero => have := HFIT.out; unfold fit at this; cases l with
            | nil => exact absurd hk1 (by first | (simp; done) | (simp; omega))
            | cons _ _ => simp at this
          | succ d => exact fit_len ((fit_elem HFIT.out).2 x (List.mem_of_getElem? HEL.out)).2.2
        have hkl : k < l.length := by omega
        have HS3 := Lib.hid (fun (Wc : World) (hb : Below W1.heap.size W1 Wc) => (hb.cell (World.block_lt_of_cell? _ _ HX3.out)).trans HX3.out)
        clear hr1 hr3 hC1 hC3 hM1 hM3
        refine wp_region_held_drew (S := fun W' => W'.cell? ⟨(ad.add (k * 4)).block, (ad.add (k * 4)).off + 3, none⟩ = some (.slice A3 x.f3.length c3)) (by kernel_rfl) (HS3.out _ HB3.out.drew) (fun hHeld => ?_)
        refine take_h (i := 0) (N := some 31) (v := ?_) (a' := ?_) rfl rfl (by kernel_rfl) (by kernel_rfl) (by kernel_rfl) (fun _ _ _ h => h) (Or.inl ⟨by rfl, ?_⟩) (by with_reducible assumption) ?_ ?_
        rotate_left 2
        · intro w' hSw
          try dsimp only at hSw
          go_simp
          try with_reducible rfl
        · simp only [Act.put, List.setIfInBounds_toArray, List.set_cons_zero, List.set_cons_succ]
          rfl
        refine take_h (i := 1) (N := some 32) (v := ?_) (a' := ?_) rfl rfl (by kernel_rfl) (by kernel_rfl) (by kernel_rfl) (fun _ _ _ h => h) (Or.inl ⟨by rfl, ?_⟩) (by with_reducible assumption) ?_ ?_
        rotate_left 2
        · intro w' hSw
          try dsimp only at hSw
          go_simp
          try with_reducible rfl
        · simp only [Act.put, List.setIfInBounds_toArray, List.set_cons_zero, List.set_cons_succ]
          rfl
        refine take_h (i := 2) (N := some 33) (v := ?_) (a' := ?_) rfl rfl (by kernel_rfl) (by kernel_rfl) (by kernel_rfl) (fun _ _ _ h => h) (Or.inl ⟨by rfl, ?_⟩) (by with_reducible assumption) ?_ ?_
        rotate_left 2
        · intro w' hSw
          try dsimp only at hSw
          go_simp
          try with_reducible rfl
        · simp only [Act.put, List.setIfInBounds_toArray, List.set_cons_zero, List.set_cons_succ]
          rfl
        refine take_h (i := 3) (N := some 34) (v := ?_) (a' := ?_) rfl rfl (by kernel_rfl) (by kernel_rfl) (by kernel_rfl) (fun _ _ _ h => h) (Or.inl ⟨by rfl, ?_⟩) (by with_reducible assumption) ?_ ?_
        rotate_left 2
        · intro w' hSw
          try dsimp only at hSw
          go_simp
          try with_reducible rfl
        · simp only [Act.put, List.setIfInBounds_toArray, List.set_cons_zero, List.set_cons_succ]
          rfl
        refine take_h (i := 4) (N := some 35) (v := ?_) (a' := ?_) rfl rfl (by kernel_rfl) (by kernel_rfl) (by kernel_rfl) (fun _ _ _ h => h) (Or.inl ⟨by rfl, ?_⟩) (by with_reducible assumption) ?_ ?_
        rotate_left 2
        · intro w' hSw
          try dsimp only at hSw
          go_simp
          try with_reducible rfl
        · simp only [Act.put, List.setIfInBounds_toArray, List.set_cons_zero, List.set_cons_succ]
          rfl
        refine take_h (i := 5) (N := some 36) (v := ?_) (a' := ?_) rfl rfl (by kernel_rfl) (by kernel_rfl) (by kernel_rfl) (fun _ _ _ h => h) (Or.inl ⟨by rfl, ?_⟩) (by with_reducible assumption) ?_ ?_
        rotate_left 2
        · intro w' hSw
          try dsimp only at hSw
          go_simp
          try with_reducible rfl
        · simp only [Act.put, List.setIfInBounds_toArray, List.set_cons_zero, List.set_cons_succ]
          rfl
        refine take_h (i := 6) (N := some 37) (v := ?_) (a' := ?_) rfl rfl (by kernel_rfl) (by kernel_rfl) (by kernel_rfl) (fun _ _ _ h => h) (Or.inl ⟨by rfl, ?_⟩) (by with_reducible assumption) ?_ ?_
        rotate_left 2
        · intro w' hSw
          try dsimp only at hSw
          go_simp
          try with_reducible rfl
        · simp only [Act.put, List.setIfInBounds_toArray, List.set_cons_zero, List.set_cons_succ]
          rfl
        refine take_h (i := 7) (N := some 38) (v := ?_) (a' := ?_) rfl rfl (by kernel_rfl) (by kernel_rfl) (by kernel_rfl) (fun _ _ _ h => h) (Or.inl ⟨by rfl, ?_⟩) (by with_reducible assumption) ?_ ?_
        rotate_left 2
        · intro w' hSw
          try dsimp only at hSw
          go_simp
          try with_reducible rfl
        · simp only [Act.put, List.setIfInBounds_toArray, List.set_cons_zero, List.set_cons_succ]
          rfl
        have HBd : Hid (Below W1.heap.size W1 X2.drew) := Lib.hid HB3.out.drew
        generalize hX3 : X2.drew = X3 at HBd hHeld ⊢
        clear hX3
        refine wpAnyH_ready (rs := [8]) (by kernel_rfl) (by simp) (AllReadyH.cons rfl (fun K hK => ?_) AllReadyH.nil)
        go_simp
        have HN := Lib.hid (heap_alloc_new X3 (.cells #[.slice (some ad) k cap, .slice A3 x.f3.length c3] 22))
        have HB4 : Hid (Below W1.heap.size W1 (X3.alloc (.cells #[.slice (some ad) k cap, .slice A3 x.f3.length c3] 22))) := Lib.hid (HBd.out.alloc HBd.out.size _)
        refine hK.out _ _ (HS3.out _ HB4.out) (fun hHeld => ?_)
        clear hK K HBd
        try simp only [Act.put, List.setIfInBounds_toArray, List.set_cons_zero, List.set_cons_succ]
        generalize X3.alloc (.cells #[.slice (some ad) k cap, .slice A3 x.f3.length c3] 22) = X4 at *
        generalize X3.heap.size = bR at *
        refine wpAnyH_ready (rs := [9]) (by kernel_rfl) (by simp) (AllReadyH.cons rfl (fun K hK => ?_) AllReadyH.nil)
        go_simp
        have hCa : Kd.C (Kd.raw 4) X4 (some ad) k (rows.take k) := by
          have h9 := Kd.C_take (m := k) (by rw [HRL.out.1]; exact HRC.out.1) (by rw [HRL.out.1]; omega)
          have e9 : (rows.take k).length = k := by rw [List.length_take, HRL.out.1]; omega
          rw [e9] at h9
          exact Kd.C_below h9 HB4.out
        refine (concat_any (some ad) A3 k x.f3.length cap c3 bR (rows.take k) rows3 X4 hCa (Kd.C_below HRC.out.2 HB4.out) (by omega) (by omega) HN.out).mono ?_
        rintro e X5 ⟨v, rfl, hv, hb5⟩
        have HB5 : Hid (Below W1.heap.size W1 X5) := Lib.hid (HB4.out.trans (hb5.mono HB4.out.size))
        have HV5 := Lib.hid (cat_R (l := l.take k) (m := x.f3) HB1.out.size HB5.out (Kd.R_lower hv HB4.out.size) (by rw [List.length_take, List.length_take, HRL.out.1]) HRL.out.2
          (fun j y cs hy hc => by
            rw [List.getElem?_take] at hy hc
            split at hy
            · rename_i hj; rw [if_pos hj] at hc; exact HRM.out.1 j y cs hy hc
            · cases hy) HRM.out.2)
        clear hb5 hv hCa HN HB4
        dsimp only
        refine hK.out _ _ (HS3.out _ HB5.out) (fun hHeld => ?_)
        clear hK K
        try simp only [Act.put, List.setIfInBounds_toArray, List.set_cons_zero, List.set_cons_succ]
        refine take_h (i := 10) (N := some 2) (v := ?_) (a' := ?_) rfl rfl (by kernel_rfl) (by kernel_rfl) (by kernel_rfl) (fun _ _ _ h => h) (Or.inl ⟨by rfl, ?_⟩) (by with_reducible assumption) ?_ ?_
        rotate_left 2
        · intro w' hSw
          try dsimp only at hSw
          go_simp
          try with_reducible rfl
        · simp only [Act.put, List.setIfInBounds_toArray, List.set_cons_zero, List.set_cons_succ]
          rfl
        refine wpAnyH_done (by kernel_rfl) ?_ _
        clear hHeld
        go_wp2
        go_ret
        exact ⟨_, rfl, by rw [HO.out]; exact HV5.out, HB1.out.trans (HB5.out.mono HB1.out.size)⟩
end Go.Proofs.YtdgdilbbpnlplaaDoor
