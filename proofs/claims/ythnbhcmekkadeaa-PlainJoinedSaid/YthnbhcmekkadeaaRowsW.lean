/- What plain.rows and what it calls come to at this program: walks. -/
import Derived.Test.YthnbhcmekkadeaaRowsP
import Derived.Deep.RegionHeld3
import Derived.Deep.RegionWith
import Derived.Deep.DeepCutAuto
import Derived.Lib.Hide
import Derived.BigQuiet
import Derived.Lib.Strings
set_option linter.unusedVariables false
namespace Go.Proofs.Ythnbhcmekkadeaa
open Go.RowKit Plain Go.Proofs.Ythnbhcmekkadeaa.Pr Go.Proofs.YthnbhcmekkadeaaW.PrintWords Go.Proofs.YthnbhcmekkadeaaW.PrintLast Go.Proofs.YthnbhcmekkadeaaW.PrintMore

set_option maxHeartbeats 1000000 in
theorem shallow_any (x : S44) (lv : Int) (X : Nat) (w : World) (hX : w.cell? ⟨X, 0, none⟩ = some (.int .i64 lv)) :
    Calls Try.prog 32 #[.agg #[.int .i64 x.f0, .string x.f1], .pointer (some ⟨X, 0, none⟩)] w fun e w' => e = .returned (.bool (decide (x.f0 ≤ lv))) ∧ Below w.heap.size w w' := by
  have hlt := World.block_lt_of_cell? w _ hX
  have hX' : (w.alloc (.cells #[.int .i64 x.f0, .string x.f1] 44)).cell? ⟨X, 0, none⟩ = some (.int .i64 lv) := by
    rw [World.cell?_alloc_past _ _ _ hlt]; exact hX
  go_enter Try.func32, Try.ntmps32
  go_wp2
  go_ret
  exact ⟨rfl, (Below.refl _ _).alloc (Nat.le_refl _) _⟩

theorem lead_spec (lv : Int) : ∀ (l : List S44) (k : Nat), k ≤ lead lv l → k < l.length → (k < lead lv l ↔ lv < (l.getD k z44).f0)
  | [], k, _, h => by simp at h
  | x :: r, 0, _, _ => by
    unfold lead
    by_cases h : lv < x.f0
    · rw [if_pos h]; simp [h]
    · rw [if_neg h]; simp [h]
  | x :: r, k + 1, h1, h2 => by
    unfold lead at h1 ⊢
    by_cases h : lv < x.f0
    · rw [if_pos h] at h1 ⊢
      have := lead_spec lv r k (by omega) (by simpa using h2)
      simp only [List.getD_cons_succ]
      rw [← this]; omega
    · rw [if_neg h] at h1
      omega

def idxV (lv : Int) (l : List S44) : Int := if lead lv l < l.length then (lead lv l : Int) else -1

set_option maxHeartbeats 2000000 in
theorem rowIdx_any (A : Option Addr) (c : Nat) (l : List S44) (lv : Int) (X : Nat) (w : World) (hr : Kd.C k44 w A l.length l) (hlen : l.length ≤ 1000000) (hX : w.cell? ⟨X, 0, none⟩ = some (.int .i64 lv)) :
    Calls Try.prog 31 #[.slice A l.length c, .func (.func 32) #[] #[.pointer (some ⟨X, 0, none⟩)]] w fun e w' => e = .returned (.int .i64 (idxV lv l)) ∧ Below w.heap.size w w' := by
  have HR := Lib.hid hr
  have HX := Lib.hid hX
  have HXlt := World.block_lt_of_cell? w _ hX
  clear hr hX
  go_enter Try.func31, Try.ntmps31
  go_wp2
  go_loopw [8] (fun i wr => ∃ k : Nat, k ≤ l.length ∧ i = .int .i64 k ∧ Hid (k ≤ lead lv l) ∧ Hid (Below w.heap.size w wr)) (fun i _ => l.length - (intOf i).toNat)
  case atStart => exact ⟨0, Nat.zero_le _, rfl, Lib.hid (Nat.zero_le _), Lib.hid (Below.refl _ _)⟩
  case round =>
    obtain ⟨k, hk, rfl, HK, Hb⟩ := hrel
    by_cases hlt : k < l.length
    · have hp : (0 : Int) ≤ (k : Int) := by omega
      have hq : (k : Int) < (l.length : Int) := by omega
      obtain ⟨ad, e, hx0, hx1⟩ := at_T44 HR.out (k : Int) hp hq
      subst e
      replace hx0 := (Hb.out.cell (World.block_lt_of_cell? w _ hx0)).trans hx0
      replace hx1 := (Hb.out.cell (World.block_lt_of_cell? w _ hx1)).trans hx1
      simp only [Int.toNat_natCast] at hx0 hx1
      have HS := Lib.hid (lead_spec lv l k HK.out hlt)
      have hrd : rd_T44 l (k : Int) = l.getD k z44 := by unfold rd_T44; rw [Int.toNat_natCast]
      rw [hrd] at hx0 hx1
      clear hrd
      generalize l.getD k z44 = x at *
      have HXr : Hid (wr.cell? ⟨X, 0, none⟩ = some (.int .i64 lv)) := Lib.hid ((Hb.out.cell (p := ⟨X, 0, none⟩) HXlt).trans HX.out)
      go_wp2_with fail
      refine (shallow_any x lv X _ HXr.out).mono ?_
      rintro e w1 ⟨rfl, hb1⟩
      have Hb1 : Hid (Below w.heap.size w w1) := Lib.hid (Hb.out.trans ⟨hb1.os, hb1.tape, hb1.output, hb1.size, fun i hi => hb1.block i (Nat.lt_of_lt_of_le hi Hb.out.size)⟩)
      clear hb1
      by_cases hs : x.f0 ≤ lv
      · have hd : decide (x.f0 ≤ lv) = true := decide_eq_true hs
        have HE : Hid (idxV lv l = (k : Int)) := Lib.hid (by
          have h1 := HK.out
          have h2 : ¬ k < lead lv l := fun h => by have := HS.out.1 h; omega
          have h3 : lead lv l = k := by omega
          unfold idxV
          rw [h3, if_pos hlt])
        clear HS hs
        go_wp2
        go_ret
        exact ⟨by rw [HE.out]; rfl, Hb1.out⟩
      · have hd : decide (x.f0 ≤ lv) = false := decide_eq_false hs
        have HK1 : Hid (k + 1 ≤ lead lv l) := Lib.hid (by have := HS.out.2 (by omega); omega)
        clear HS hs
        go_wp2
        go_roundw
        case rel => exact ⟨k + 1, by omega, by go_num, HK1, Hb1⟩
        case measure => simp [intOf]; omega
    · have HE : Hid (idxV lv l = -1) := Lib.hid (by
        have h1 := HK.out
        unfold idxV
        rw [if_neg (by omega)])
      go_wp2
      go_ret
      exact ⟨by rw [HE.out]; rfl, Hb.out⟩

def sliceLen : Value → Nat
  | .slice _ n _ => n
  | _ => 0
theorem below_le {w1 w2 : World} {B C : Nat} (k : Below C w1 w2) (hB : B ≤ C) : Below B w1 w2 := ⟨k.os, k.tape, k.output, k.size, fun i hi => k.block i (Nat.lt_of_lt_of_le hi hB)⟩
theorem box_cell {W : World} {X : Nat} {v : Value} {t : TypeId} (h : W.heap[X]? = some (.cells #[v] t (0, 0))) : W.cell? ⟨X, 0, none⟩ = some v := by simp [World.cell?, h]
theorem box_lt {W : World} {X : Nat} {o : Obj} (h : W.heap[X]? = some o) : X < W.heap.size := (Array.getElem?_eq_some_iff.1 h).1
def RowsPost (w : World) (r : List S36) (e : Ending) (w' : World) : Prop := ∃ v, e = .returned v ∧ Kd.R k36 36 w' w.heap.size (fun _ => True) v r ∧ Below w.heap.size w w'

theorem lead_pos {lv : Int} {x : S44} {r : List S44} (h : lv < x.f0) : 1 ≤ lead lv (x :: r) := by unfold lead; rw [if_pos h]; omega
theorem lead_zero {lv : Int} {x : S44} {r : List S44} (h : ¬ lv < x.f0) : lead lv (x :: r) = 0 := by unfold lead; rw [if_neg h]

set_option maxRecDepth 100000 in
set_option maxHeartbeats 8000000 in
theorem rows_step (d : Nat) (A : Option Addr) (c : Nat) (l : List S44) (lv : Int) (w : World) (hr : Kd.C k44 w A l.length l) (hc : l.length ≤ c) (hlen : l.length ≤ 100000) (hlv0 : 0 ≤ lv) (hlv : lv + d ≤ 1000) (hall : ∀ x ∈ l, x.f0 ≤ lv + d)
    (hin : ∀ (A : Option Addr) (c : Nat) (l : List S44) (w : World), Kd.C k44 w A l.length l → l.length ≤ c → l.length ≤ 100000 → (∀ x ∈ l, x.f0 ≤ lv + d) → 1 ≤ d → Calls Try.prog 23 #[.slice A l.length c, .int .i64 (lv + 1)] w (RowsPost w (inner d lv l))) :
    Calls Try.prog 23 #[.slice A l.length c, .int .i64 lv] w (RowsPost w (rowsD d lv l)) := by
  rw [rowsD_go]
  have HR := Lib.hid hr
  have HALL := Lib.hid hall
  have HIN := Lib.hid hin
  have hmf : ∀ (fn : Fn) (first cap : Array Value) (w : World), (Instr.makeFunc fn first cap).run Try.prog w = .ok (.func fn first cap) w := fun _ _ _ _ => rfl
  clear hr hall hin
  go_enter Try.func23, Try.ntmps23
  go_wp2
  go_loopw [0, 5] (fun sv ov wr => ∃ (A' : Option Addr) (c' : Nat) (l' : List S44) (done : List S36), sv = .slice A' l'.length c' ∧ l'.length ≤ c' ∧ l'.length ≤ l.length ∧ done.length + 2 * l'.length ≤ 2 * l.length ∧
      Hid (∀ x ∈ l', x.f0 ≤ lv + d) ∧ Hid (done ++ rowsGo (inner d lv) lv l'.length l' = rowsGo (inner d lv) lv l.length l) ∧ Hid (Kd.C k44 w A' l'.length l') ∧ Hid (Kd.R k36 36 wr w.heap.size (fun _ => True) ov done) ∧
      Hid (Below w.heap.size w wr) ∧ Hid (wr.heap[w.heap.size]? = some (.cells #[.int .i64 lv] 3 (0, 0)))) (fun sv _ _ => sliceLen sv)
  case atStart => exact ⟨A, c, l, [], rfl, hc, Nat.le_refl _, by simp, HALL, Lib.hid rfl, HR, Lib.hid (Kd.R_nil _ _ _ _ _), Lib.hid ((Below.refl _ _).alloc (Nat.le_refl _) _), Lib.hid (heap_alloc_new w _)⟩
  case round =>
    rename_i u5
    obtain ⟨A', c', l', done, rfl, hc', hl', hdl, HALL', HD, HR', HO, Hb, HX⟩ := hrel
    have hcX := Lib.hid (box_cell HX.out)
    have hXlt := Lib.hid (box_lt HX.out)
    cases l' with
    | nil =>
      have HE : Hid (rowsGo (inner d lv) lv l.length l = done) := Lib.hid (by rw [← HD.out]; simp [rowsGo])
      simp only [List.length_nil] at *
      go_wp2
      go_ret
      exact ⟨_, rfl, by rw [HE.out]; exact HO.out, Hb.out⟩
    | cons x r =>
      have hpos : (0 : Int) < ((x :: r).length : Int) := by simp
      have hlen6 : (x :: r).length ≤ 1000000 := by omega
      obtain ⟨ad, e, hx0, hx1⟩ := at_T44 HR'.out 0 (by omega) hpos
      subst e
      have HX0 : Hid (w.cell? ad = some (.int .i64 x.f0)) := Lib.hid (by have := hx0; simpa [rd_T44, Addr.add] using this)
      have HX1 : Hid (w.cell? ⟨ad.block, ad.off + 1, none⟩ = some (.string x.f1)) := Lib.hid (by have := hx1; simpa [rd_T44, Addr.add] using this)
      clear hx0 hx1
      have hle := lead_le lv (x :: r)
      by_cases hx : lv < x.f0
      · have hm1 := lead_pos (r := r) hx
        have HQ := Lib.hid (rowsGo_quote (inner d lv) lv x r hx)
        have hd1 : 1 ≤ d := by have := HALL'.out x (by simp); omega
        generalize hL : x :: r = l' at *
        clear hL
        by_cases hm : lead lv l' < l'.length
        · have hi : idxV lv l' = (lead lv l' : Int) := by unfold idxV; rw [if_pos hm]
          go_wp2_with fail
          refine (rowIdx_any (some ad) c' l' lv w.heap.size _ (Kd.C_below HR'.out Hb.out) hlen6 hcX.out).mono ?_
          rintro e w1 ⟨rfl, hb1⟩
          rw [hi]
          clear hi
          have hcX1 : w1.cell? ⟨w.heap.size, 0, none⟩ = some (.int .i64 lv) := (hb1.cell (p := ⟨w.heap.size, 0, none⟩) hXlt.out).trans hcX.out
          have HX1' : Hid (w1.heap[w.heap.size]? = some (.cells #[.int .i64 lv] 3 (0, 0))) := Lib.hid ((hb1.block _ hXlt.out).trans HX.out)
          have HO1 : Hid (Kd.R k36 36 w1 w.heap.size (fun _ => True) _ done) := Lib.hid (Kd.R_below HO.out hb1)
          have Hb1 : Hid (Below w.heap.size w w1) := Lib.hid (Hb.out.trans (below_le hb1 Hb.out.size))
          clear hb1 HO Hb HX hcX hXlt
          generalize lead lv l' = m at *
          have hs1 : (0 : Int) ≤ (m : Int) := by omega
          have hs2 : (m : Int) ≤ (c' : Int) := by omega
          have hs3 : (0 : Int) < (m : Int) := by omega
          have hw1 : IntKind.i64.wrap (lv + 1) = lv + 1 := IntWalk.i64_in _ (by omega)
          go_wp2_with fail
          have HC2 := Lib.hid (Kd.C_take HR'.out hle)
          have HIN2 : Hid (∀ W, Below w.heap.size w W → Calls Try.prog 23 #[.slice (some ad) m c', .int .i64 (lv + 1)] W (RowsPost W (inner d lv (l'.take m)))) := Lib.hid (by
            intro W hb
            have e : (l'.take m).length = m := by rw [List.length_take]; omega
            have := HIN.out (some ad) c' (l'.take m) W (Kd.C_below HC2.out hb) (by omega) (by omega) (fun y hy => HALL'.out y (List.mem_of_mem_take hy)) hd1
            rwa [e] at this)
          have HOd : Hid (Kd.R k36 36 w1.drew w.heap.size (fun _ => True) u5 done) := Lib.hid (Kd.R_drew HO1.out)
          have Hbd : Hid (Below w.heap.size w w1.drew) := Lib.hid Hb1.out.drew
          have HXd : Hid (w1.drew.heap[w.heap.size]? = some (.cells #[.int .i64 lv] 3 (0, 0))) := Lib.hid HX1'.out
          clear HO1 Hb1 HX1'
          go_region_held3 (fun W => W.cell? ⟨w.heap.size, 0, none⟩ = some (.int .i64 lv)) (first | assumption | go_keep) (first
            | (go_at_call 23
               refine (HIN2.out w1.drew Hbd.out).mono ?_
               rintro e w2 ⟨kv, rfl, hk, hb2⟩
               have HO2 := Lib.hid (Kd.R_elder' HOd.out (Kd.R_base hk) hb2)
               have HK2 := Lib.hid (Kd.R_lower (Kd.R_new' hk (Kd.R_lt HOd.out)) Hbd.out.size)
               have Hb2 : Hid (Below w.heap.size w w2) := Lib.hid (Hbd.out.trans (below_le hb2 Hbd.out.size))
               have hcX2 : w2.cell? ⟨w.heap.size, 0, none⟩ = some (.int .i64 lv) := (hb2.cell (p := ⟨w.heap.size, 0, none⟩) (box_lt HXd.out)).trans hcX1
               have HX2 : Hid (w2.heap[w.heap.size]? = some (.cells #[.int .i64 lv] 3 (0, 0))) := Lib.hid ((hb2.block _ (box_lt HXd.out)).trans HXd.out)
               clear hk hb2
               obtain ⟨Ak, ck, ek⟩ := Kd.R_slice HK2.out
               subst ek)
            | (refine Kd.R_append_step k36 (w0 := w) w.heap.size (by rfl) _ _ 26 36 (.agg #[(.string ⟨#[]⟩), (.slice none 0 0), (.string ⟨#[]⟩), (.slice none 0 0)]) 80 (by rfl) Try.underlying26 info36 rfl (by decide) (by omega) u5 done (qNode (inner d lv (l'.take m))) [.string ⟨#[98, 108, 111, 99, 107, 113, 117, 111, 116, 101]⟩, .slice none 0 0, .string ⟨#[]⟩, .slice Ak (inner d lv (l'.take m)).length ck] (fun _ => True) (fun k_ => True ∧ some k_ ≠ (u5 : Value).ownBlock) (by rfl) (by rfl) (k36_mkM _ _ _ _ (Kd.R_nil _ _ _ _ _) (Kd.R_mono HK2.out (fun _ hk => ⟨trivial, hk.2⟩))) (fun _ hk => hk) (fun _ _ => trivial) (Kd.R_mono HO2.out (fun _ _ => trivial)) Hb2.out Hb2.out.size (by omega) ?_
               intro v3 w3 ho3 hb3 hg3 hat3
               have hX3 := (hg3.block w.heap.size (box_lt HX2.out) (fun e => ((Kd.R_types HO2.out HX2.out (by decide)).1 _ e.symm).2 rfl)).trans HX2.out
               have hcX3 := box_cell hX3
               have HX3 := Lib.hid hX3
               have HO3 := Lib.hid ho3
               have HB3 := Lib.hid hb3
               clear hX3 ho3 hb3 hg3 hat3))
          have hadd : Hid ((some ad : Option Addr) = some ad) := Lib.hid rfl
          have HC4 := Lib.hid (Kd.C_drop (c := c') HR'.out hle hc')
          go_wp2
          go_roundw
          case rel =>
            refine ⟨some (ad.add (m * 2)), c' - m, l'.drop m, done ++ [qNode (inner d lv (l'.take m))], by rw [List.length_drop], by rw [List.length_drop]; omega, by rw [List.length_drop]; omega, by rw [List.length_drop, List.length_append]; simp; omega, Lib.hid (fun y hy => HALL'.out y (List.mem_of_mem_drop hy)), Lib.hid ?_, Lib.hid ?_, HO3, HB3, HX3⟩
            · rw [← HD.out, HQ.out]; simp
            · have := HC4.out; rw [if_neg (by omega)] at this; exact this
          case measure => simp [sliceLen]; omega
        · have hi : idxV lv l' = -1 := by unfold idxV; rw [if_neg hm]
          have hml : lead lv l' = l'.length := by omega
          rw [hml] at hm1 HQ hle
          clear hml
          go_wp2_with fail
          refine (rowIdx_any (some ad) c' l' lv w.heap.size _ (Kd.C_below HR'.out Hb.out) hlen6 hcX.out).mono ?_
          rintro e w1 ⟨rfl, hb1⟩
          rw [hi]
          clear hi
          have hcX1 : w1.cell? ⟨w.heap.size, 0, none⟩ = some (.int .i64 lv) := (hb1.cell (p := ⟨w.heap.size, 0, none⟩) hXlt.out).trans hcX.out
          have HX1' : Hid (w1.heap[w.heap.size]? = some (.cells #[.int .i64 lv] 3 (0, 0))) := Lib.hid ((hb1.block _ hXlt.out).trans HX.out)
          have HO1 : Hid (Kd.R k36 36 w1 w.heap.size (fun _ => True) _ done) := Lib.hid (Kd.R_below HO.out hb1)
          have Hb1 : Hid (Below w.heap.size w w1) := Lib.hid (Hb.out.trans (below_le hb1 Hb.out.size))
          clear hb1 HO Hb HX hcX hXlt
          have hs1 : (0 : Int) ≤ (l'.length : Int) := by omega
          have hs2 : (l'.length : Int) ≤ (c' : Int) := by omega
          have hs3 : (0 : Int) < (l'.length : Int) := by omega
          have hw1 : IntKind.i64.wrap (lv + 1) = lv + 1 := IntWalk.i64_in _ (by omega)
          go_wp2_with fail
          have HIN2 : Hid (∀ W, Below w.heap.size w W → Calls Try.prog 23 #[.slice (some ad) l'.length c', .int .i64 (lv + 1)] W (RowsPost W (inner d lv l'))) := Lib.hid (by
            intro W hb
            exact HIN.out (some ad) c' l' W (Kd.C_below HR'.out hb) hc' (by omega) HALL'.out hd1)
          have HOd : Hid (Kd.R k36 36 w1.drew w.heap.size (fun _ => True) u5 done) := Lib.hid (Kd.R_drew HO1.out)
          have Hbd : Hid (Below w.heap.size w w1.drew) := Lib.hid Hb1.out.drew
          have HXd : Hid (w1.drew.heap[w.heap.size]? = some (.cells #[.int .i64 lv] 3 (0, 0))) := Lib.hid HX1'.out
          clear HO1 Hb1 HX1'
          go_region_held3 (fun W => W.cell? ⟨w.heap.size, 0, none⟩ = some (.int .i64 lv)) (first | assumption | go_keep) (first
            | (go_at_call 23
               refine (HIN2.out w1.drew Hbd.out).mono ?_
               rintro e w2 ⟨kv, rfl, hk, hb2⟩
               have HO2 := Lib.hid (Kd.R_elder' HOd.out (Kd.R_base hk) hb2)
               have HK2 := Lib.hid (Kd.R_lower (Kd.R_new' hk (Kd.R_lt HOd.out)) Hbd.out.size)
               have Hb2 : Hid (Below w.heap.size w w2) := Lib.hid (Hbd.out.trans (below_le hb2 Hbd.out.size))
               have hcX2 : w2.cell? ⟨w.heap.size, 0, none⟩ = some (.int .i64 lv) := (hb2.cell (p := ⟨w.heap.size, 0, none⟩) (box_lt HXd.out)).trans hcX1
               have HX2 : Hid (w2.heap[w.heap.size]? = some (.cells #[.int .i64 lv] 3 (0, 0))) := Lib.hid ((hb2.block _ (box_lt HXd.out)).trans HXd.out)
               clear hk hb2
               obtain ⟨Ak, ck, ek⟩ := Kd.R_slice HK2.out
               subst ek)
            | (refine Kd.R_append_step k36 (w0 := w) w.heap.size (by rfl) _ _ 26 36 (.agg #[(.string ⟨#[]⟩), (.slice none 0 0), (.string ⟨#[]⟩), (.slice none 0 0)]) 80 (by rfl) Try.underlying26 info36 rfl (by decide) (by omega) u5 done (qNode (inner d lv l')) [.string ⟨#[98, 108, 111, 99, 107, 113, 117, 111, 116, 101]⟩, .slice none 0 0, .string ⟨#[]⟩, .slice Ak (inner d lv l').length ck] (fun _ => True) (fun k_ => True ∧ some k_ ≠ (u5 : Value).ownBlock) (by rfl) (by rfl) (k36_mkM _ _ _ _ (Kd.R_nil _ _ _ _ _) (Kd.R_mono HK2.out (fun _ hk => ⟨trivial, hk.2⟩))) (fun _ hk => hk) (fun _ _ => trivial) (Kd.R_mono HO2.out (fun _ _ => trivial)) Hb2.out Hb2.out.size (by omega) ?_
               intro v3 w3 ho3 hb3 hg3 hat3
               have hX3 := (hg3.block w.heap.size (box_lt HX2.out) (fun e => ((Kd.R_types HO2.out HX2.out (by decide)).1 _ e.symm).2 rfl)).trans HX2.out
               have hcX3 := box_cell hX3
               have HX3 := Lib.hid hX3
               have HO3 := Lib.hid ho3
               have HB3 := Lib.hid hb3
               clear hX3 ho3 hb3 hg3 hat3))
          have hadd : Hid ((some ad : Option Addr) = some ad) := Lib.hid rfl
          have HC4 := Lib.hid (Kd.C_drop (c := c') HR'.out hle hc')
          by_cases hcm : c' = l'.length
          · go_wp2
            go_roundw
            case rel =>
              refine ⟨some ad, c' - l'.length, l'.drop l'.length, done ++ [qNode (inner d lv l')], by rw [List.length_drop, hcm, Nat.sub_self], by rw [List.length_drop]; omega, by rw [List.length_drop]; omega, by rw [List.length_drop, List.length_append]; simp; omega, Lib.hid (fun y hy => HALL'.out y (List.mem_of_mem_drop hy)), Lib.hid ?_, Lib.hid ?_, HO3, HB3, HX3⟩
              · rw [← HD.out, HQ.out]; simp
              · have := HC4.out; rw [if_pos hcm] at this; exact this
            case measure => simp [sliceLen]; omega
          · go_wp2
            go_roundw
            case rel =>
              refine ⟨some (ad.add (l'.length * 2)), c' - l'.length, l'.drop l'.length, done ++ [qNode (inner d lv l')], by rw [List.length_drop, Nat.sub_self], by rw [List.length_drop]; omega, by rw [List.length_drop]; omega, by rw [List.length_drop, List.length_append]; simp; omega, Lib.hid (fun y hy => HALL'.out y (List.mem_of_mem_drop hy)), Lib.hid ?_, Lib.hid ?_, HO3, HB3, HX3⟩
              · rw [← HD.out, HQ.out]; simp
              · have := HC4.out; rw [if_neg hcm] at this; exact this
            case measure => simp [sliceLen]; omega
      · have hm0 := lead_zero (r := r) hx
        have hi : idxV lv (x :: r) = 0 := by unfold idxV; rw [hm0, if_pos (by simp)]; rfl
        have HQ := Lib.hid (rowsGo_line (inner d lv) lv x r hx)
        have HC4 := Lib.hid (Kd.C_drop (m := 1) (c := c') HR'.out (by simp) hc')
        simp only [List.length_cons] at hc' hl' hdl hlen6 hpos
        have hlenr : ((x :: r).length : Int) = (r.length : Int) + 1 := by simp
        clear hm0 hle hx
        go_wp2_with fail
        refine (rowIdx_any (some ad) c' (x :: r) lv w.heap.size _ (Kd.C_below HR'.out Hb.out) (by simp; omega) hcX.out).mono ?_
        rintro e w1 ⟨rfl, hb1⟩
        rw [hi]
        clear hi
        have hcX1 : w1.cell? ⟨w.heap.size, 0, none⟩ = some (.int .i64 lv) := (hb1.cell (p := ⟨w.heap.size, 0, none⟩) hXlt.out).trans hcX.out
        have HX1' : Hid (w1.heap[w.heap.size]? = some (.cells #[.int .i64 lv] 3 (0, 0))) := Lib.hid ((hb1.block _ hXlt.out).trans HX.out)
        have HO1 : Hid (Kd.R k36 36 w1 w.heap.size (fun _ => True) u5 done) := Lib.hid (Kd.R_below HO.out hb1)
        have Hb1 : Hid (Below w.heap.size w w1) := Lib.hid (Hb.out.trans (below_le hb1 Hb.out.size))
        have hx1 : w1.cell? ⟨ad.block, ad.off + 1, none⟩ = some (.string x.f1) := (Hb1.out.cell (World.block_lt_of_cell? w _ HX1.out)).trans HX1.out
        clear hb1 HO Hb HX hcX hXlt
        by_cases h0 : x.f1.size = 0
        · have e0 : x.f1.toList = [] := by rw [Lib.toList_data]; apply List.eq_nil_of_length_eq_zero; simpa using h0
          have e1 : (!x.f1.toList.isEmpty) = false := by rw [e0]; rfl
          have HT : Hid (txts x.f1 = []) := Lib.hid (by unfold txts; rw [if_pos h0])
          clear h0 e0
          have hc1 : (1 : Int) ≤ (c' : Int) := by omega
          cases hr0 : r with
          | nil =>
            subst hr0
            simp only [List.length_nil] at *
            have HBR : Hid (brks lv [] = []) := Lib.hid (by rfl)
            by_cases hcm : c' = 1
            · have hcz : c' - 1 = 0 := by omega
              go_wp2_with fail
              go_quiet (fail)
              go_wp2
              go_roundw
              case rel =>
                refine ⟨some ad, c' - 1, [], done, by first | rfl | (simp; try omega; try rfl), by simp at hc' ⊢; try omega, by simp at hl' ⊢; try omega, by simp at hdl ⊢; try omega, Lib.hid (fun z hz => HALL'.out z (List.mem_cons_of_mem _ hz)), Lib.hid ?_, Lib.hid ?_, Lib.hid (by (with_reducible repeat (first | apply Kd.R_alloc | apply Kd.R_drewN | apply Kd.R_drew)); exact HO1.out), Lib.hid (by (repeat (first | (with_reducible first | apply below_alloc | apply pw_below_drewN | apply below_drew1))); exact Hb1.out), Lib.hid HX1'.out⟩
                · rw [← HD.out, HQ.out, HT.out, HBR.out]; simp
                · have := HC4.out; rw [if_pos hcm] at this; exact this
              case measure => simp [sliceLen]
            · have hcz : ¬ c' - 1 = 0 := by omega
              go_wp2_with fail
              go_quiet (fail)
              go_wp2
              go_roundw
              case rel =>
                refine ⟨some (ad.add 2), c' - 1, [], done, by first | rfl | (simp; try omega; try rfl), by simp at hc' ⊢; try omega, by simp at hl' ⊢; try omega, by simp at hdl ⊢; try omega, Lib.hid (fun z hz => HALL'.out z (List.mem_cons_of_mem _ hz)), Lib.hid ?_, Lib.hid ?_, Lib.hid (by (with_reducible repeat (first | apply Kd.R_alloc | apply Kd.R_drewN | apply Kd.R_drew)); exact HO1.out), Lib.hid (by (repeat (first | (with_reducible first | apply below_alloc | apply pw_below_drewN | apply below_drew1))); exact Hb1.out), Lib.hid HX1'.out⟩
                · rw [← HD.out, HQ.out, HT.out, HBR.out]; simp
                · have := HC4.out; rw [if_neg hcm] at this; exact this
              case measure => simp [sliceLen]
          | cons y r2 =>
            subst hr0
            have hq1 : (1 : Int) < ((x :: y :: r2).length : Int) := by simp; omega
            obtain ⟨ad2, e2, hy0, _⟩ := at_T44 HR'.out 1 (by omega) hq1
            obtain rfl : ad = ad2 := by injection e2
            have HY0 : Hid (w.cell? (ad.add 2) = some (.int .i64 y.f0)) := Lib.hid (by have := hy0; simpa [rd_T44] using this)
            clear hy0
            by_cases hy : y.f0 ≤ lv
            · have hyd : decide (y.f0 ≤ lv) = true := decide_eq_true hy
              have HBR : Hid (brks lv (y :: r2) = [bNode]) := Lib.hid (by show (if y.f0 ≤ lv then [bNode] else []) = _; rw [if_pos hy])
              clear hy
              have hc2 : ¬ c' = 1 := by simp at hc'; omega
              have hy1 : w1.cell? ⟨ad.block, ad.off + 2, none⟩ = some (.int .i64 y.f0) := (Hb1.out.cell (World.block_lt_of_cell? w _ HY0.out)).trans HY0.out
              go_wp2_with fail
              go_quiet (fail)
              go_wp2_with (first | ((with_reducible refine gate_builtin (b := .append) (xs := #[.tmp 58, .tmp 60]) rfl ?_); at_builtin; refine Kd.R_append k36 (w0 := w) w.heap.size rfl (.tmp 58) (.tmp 60) 26 36 (.agg #[(.string ⟨#[]⟩), (.slice none 0 0), (.string ⟨#[]⟩), (.slice none 0 0)]) 80 rfl Try.underlying26 info36 rfl (by decide) (by omega) u5 (done) (bNode) [.string ⟨#[98, 114]⟩, .slice none 0 0, .string ⟨#[]⟩, .slice none 0 0] (fun _ => True) (fun k_ => True ∧ some k_ ≠ (u5 : Value).ownBlock) rfl rfl (k36_mkM _ _ _ _ (Kd.R_nil _ _ _ _ _) (Kd.R_nil _ _ _ _ _)) (fun _ hk => hk) (fun _ _ => trivial) (by (with_reducible repeat (first | apply Kd.R_alloc | apply Kd.R_drewN | apply Kd.R_drew)); exact HO1.out) (by (repeat (first | (with_reducible first | apply below_alloc | apply pw_below_drewN | apply below_drew1))); exact Hb1.out) (below_size (by (repeat (first | (with_reducible first | apply below_alloc | apply pw_below_drewN | apply below_drew1))); exact Hb1.out)) (by (try simp only [List.length_append, List.length_singleton]); omega) ?_; intro v4 w4 ho4 hb4 hg4 hat4; have hX4 := (hg4.block w.heap.size (box_lt HX1'.out) (fun e => ((Kd.R_types HO1.out HX1'.out (by decide)).1 _ e.symm).2 rfl)).trans HX1'.out; have HX4 := Lib.hid hX4; have HO4 := Lib.hid ho4; have Hb4 := Lib.hid hb4; clear hX4 ho4 hb4 hg4 hat4))
              go_roundw
              case rel =>
                refine ⟨some (ad.add 2), c' - 1, (y :: r2), (done) ++ [bNode], by first | rfl | (simp; try omega; try rfl), by simp at hc' ⊢; try omega, by simp at hl' ⊢; try omega, by simp at hdl ⊢; try omega, Lib.hid (fun z hz => HALL'.out z (List.mem_cons_of_mem _ hz)), Lib.hid ?_, Lib.hid ?_, Lib.hid (by (with_reducible repeat (first | apply Kd.R_alloc | apply Kd.R_drewN | apply Kd.R_drew)); exact HO4.out), Lib.hid (by (repeat (first | (with_reducible first | apply below_alloc | apply pw_below_drewN | apply below_drew1))); exact Hb4.out), Lib.hid HX4.out⟩
                · rw [← HD.out, HQ.out, HT.out, HBR.out]; simp
                · have := HC4.out; rw [if_neg hc2] at this; exact this
              case measure => simp [sliceLen]
            · have hyd : decide (y.f0 ≤ lv) = false := decide_eq_false hy
              have HBR : Hid (brks lv (y :: r2) = []) := Lib.hid (by show (if y.f0 ≤ lv then [bNode] else []) = _; rw [if_neg hy])
              clear hy
              have hc2 : ¬ c' = 1 := by simp at hc'; omega
              have hy1 : w1.cell? ⟨ad.block, ad.off + 2, none⟩ = some (.int .i64 y.f0) := (Hb1.out.cell (World.block_lt_of_cell? w _ HY0.out)).trans HY0.out
              go_wp2_with fail
              go_quiet (fail)
              go_wp2
              go_roundw
              case rel =>
                refine ⟨some (ad.add 2), c' - 1, (y :: r2), done, by first | rfl | (simp; try omega; try rfl), by simp at hc' ⊢; try omega, by simp at hl' ⊢; try omega, by simp at hdl ⊢; try omega, Lib.hid (fun z hz => HALL'.out z (List.mem_cons_of_mem _ hz)), Lib.hid ?_, Lib.hid ?_, Lib.hid (by (with_reducible repeat (first | apply Kd.R_alloc | apply Kd.R_drewN | apply Kd.R_drew)); exact HO1.out), Lib.hid (by (repeat (first | (with_reducible first | apply below_alloc | apply pw_below_drewN | apply below_drew1))); exact Hb1.out), Lib.hid HX1'.out⟩
                · rw [← HD.out, HQ.out, HT.out, HBR.out]; simp
                · have := HC4.out; rw [if_neg hc2] at this; exact this
              case measure => simp [sliceLen]
        
        · have e1 : (!x.f1.toList.isEmpty) = true := by
            rw [Lib.toList_data, Bool.not_eq_true', List.isEmpty_eq_false_iff]
            intro h; apply h0; have := congrArg List.length h; simpa using this
          have HT : Hid (txts x.f1 = [tNode x.f1]) := Lib.hid (by unfold txts; rw [if_neg h0])
          clear h0
          have hc1 : (1 : Int) ≤ (c' : Int) := by omega
          cases hr0 : r with
          | nil =>
            subst hr0
            simp only [List.length_nil] at *
            have HBR : Hid (brks lv [] = []) := Lib.hid (by rfl)
            by_cases hcm : c' = 1
            · have hcz : c' - 1 = 0 := by omega
              go_wp2_with (first | ((with_reducible refine gate_builtin (b := .append) (xs := #[.tmp 37, .tmp 43]) rfl ?_); at_builtin; refine Kd.R_append k36 (w0 := w) w.heap.size rfl (.tmp 37) (.tmp 43) 26 36 (.agg #[(.string ⟨#[]⟩), (.slice none 0 0), (.string ⟨#[]⟩), (.slice none 0 0)]) 80 rfl Try.underlying26 info36 rfl (by decide) (by omega) u5 (done) (tNode x.f1) [.string ⟨#[]⟩, .slice none 0 0, .string x.f1, .slice none 0 0] (fun _ => True) (fun k_ => True ∧ some k_ ≠ (u5 : Value).ownBlock) rfl rfl (k36_mkM _ _ _ _ (Kd.R_nil _ _ _ _ _) (Kd.R_nil _ _ _ _ _)) (fun _ hk => hk) (fun _ _ => trivial) (by (with_reducible repeat (first | apply Kd.R_alloc | apply Kd.R_drewN | apply Kd.R_drew)); exact HO1.out) (by (repeat (first | (with_reducible first | apply below_alloc | apply pw_below_drewN | apply below_drew1))); exact Hb1.out) (below_size (by (repeat (first | (with_reducible first | apply below_alloc | apply pw_below_drewN | apply below_drew1))); exact Hb1.out)) (by (try simp only [List.length_append, List.length_singleton]); omega) ?_; intro v2 w2 ho2 hb2 hg2 hat2; have hX2 := (hg2.block w.heap.size (box_lt HX1'.out) (fun e => ((Kd.R_types HO1.out HX1'.out (by decide)).1 _ e.symm).2 rfl)).trans HX1'.out; have hcX2 := box_cell hX2; have HX2 := Lib.hid hX2; have HO2 := Lib.hid ho2; have Hb2 := Lib.hid hb2; clear hX2 ho2 hb2 hg2 hat2))
              go_quiet (fail)
              go_wp2
              go_roundw
              case rel =>
                refine ⟨some ad, c' - 1, [], done ++ [tNode x.f1], by first | rfl | (simp; try omega; try rfl), by simp at hc' ⊢; try omega, by simp at hl' ⊢; try omega, by simp at hdl ⊢; try omega, Lib.hid (fun z hz => HALL'.out z (List.mem_cons_of_mem _ hz)), Lib.hid ?_, Lib.hid ?_, Lib.hid (by (with_reducible repeat (first | apply Kd.R_alloc | apply Kd.R_drewN | apply Kd.R_drew)); exact HO2.out), Lib.hid (by (repeat (first | (with_reducible first | apply below_alloc | apply pw_below_drewN | apply below_drew1))); exact Hb2.out), Lib.hid HX2.out⟩
                · rw [← HD.out, HQ.out, HT.out, HBR.out]; simp
                · have := HC4.out; rw [if_pos hcm] at this; exact this
              case measure => simp [sliceLen]
            · have hcz : ¬ c' - 1 = 0 := by omega
              go_wp2_with (first | ((with_reducible refine gate_builtin (b := .append) (xs := #[.tmp 37, .tmp 43]) rfl ?_); at_builtin; refine Kd.R_append k36 (w0 := w) w.heap.size rfl (.tmp 37) (.tmp 43) 26 36 (.agg #[(.string ⟨#[]⟩), (.slice none 0 0), (.string ⟨#[]⟩), (.slice none 0 0)]) 80 rfl Try.underlying26 info36 rfl (by decide) (by omega) u5 (done) (tNode x.f1) [.string ⟨#[]⟩, .slice none 0 0, .string x.f1, .slice none 0 0] (fun _ => True) (fun k_ => True ∧ some k_ ≠ (u5 : Value).ownBlock) rfl rfl (k36_mkM _ _ _ _ (Kd.R_nil _ _ _ _ _) (Kd.R_nil _ _ _ _ _)) (fun _ hk => hk) (fun _ _ => trivial) (by (with_reducible repeat (first | apply Kd.R_alloc | apply Kd.R_drewN | apply Kd.R_drew)); exact HO1.out) (by (repeat (first | (with_reducible first | apply below_alloc | apply pw_below_drewN | apply below_drew1))); exact Hb1.out) (below_size (by (repeat (first | (with_reducible first | apply below_alloc | apply pw_below_drewN | apply below_drew1))); exact Hb1.out)) (by (try simp only [List.length_append, List.length_singleton]); omega) ?_; intro v2 w2 ho2 hb2 hg2 hat2; have hX2 := (hg2.block w.heap.size (box_lt HX1'.out) (fun e => ((Kd.R_types HO1.out HX1'.out (by decide)).1 _ e.symm).2 rfl)).trans HX1'.out; have hcX2 := box_cell hX2; have HX2 := Lib.hid hX2; have HO2 := Lib.hid ho2; have Hb2 := Lib.hid hb2; clear hX2 ho2 hb2 hg2 hat2))
              go_quiet (fail)
              go_wp2
              go_roundw
              case rel =>
                refine ⟨some (ad.add 2), c' - 1, [], done ++ [tNode x.f1], by first | rfl | (simp; try omega; try rfl), by simp at hc' ⊢; try omega, by simp at hl' ⊢; try omega, by simp at hdl ⊢; try omega, Lib.hid (fun z hz => HALL'.out z (List.mem_cons_of_mem _ hz)), Lib.hid ?_, Lib.hid ?_, Lib.hid (by (with_reducible repeat (first | apply Kd.R_alloc | apply Kd.R_drewN | apply Kd.R_drew)); exact HO2.out), Lib.hid (by (repeat (first | (with_reducible first | apply below_alloc | apply pw_below_drewN | apply below_drew1))); exact Hb2.out), Lib.hid HX2.out⟩
                · rw [← HD.out, HQ.out, HT.out, HBR.out]; simp
                · have := HC4.out; rw [if_neg hcm] at this; exact this
              case measure => simp [sliceLen]
          | cons y r2 =>
            subst hr0
            have hq1 : (1 : Int) < ((x :: y :: r2).length : Int) := by simp; omega
            obtain ⟨ad2, e2, hy0, _⟩ := at_T44 HR'.out 1 (by omega) hq1
            obtain rfl : ad = ad2 := by injection e2
            have HY0 : Hid (w.cell? (ad.add 2) = some (.int .i64 y.f0)) := Lib.hid (by have := hy0; simpa [rd_T44] using this)
            clear hy0
            by_cases hy : y.f0 ≤ lv
            · have hyd : decide (y.f0 ≤ lv) = true := decide_eq_true hy
              have HBR : Hid (brks lv (y :: r2) = [bNode]) := Lib.hid (by show (if y.f0 ≤ lv then [bNode] else []) = _; rw [if_pos hy])
              clear hy
              have hc2 : ¬ c' = 1 := by simp at hc'; omega
              go_wp2_with (first | ((with_reducible refine gate_builtin (b := .append) (xs := #[.tmp 37, .tmp 43]) rfl ?_); at_builtin; refine Kd.R_append k36 (w0 := w) w.heap.size rfl (.tmp 37) (.tmp 43) 26 36 (.agg #[(.string ⟨#[]⟩), (.slice none 0 0), (.string ⟨#[]⟩), (.slice none 0 0)]) 80 rfl Try.underlying26 info36 rfl (by decide) (by omega) u5 (done) (tNode x.f1) [.string ⟨#[]⟩, .slice none 0 0, .string x.f1, .slice none 0 0] (fun _ => True) (fun k_ => True ∧ some k_ ≠ (u5 : Value).ownBlock) rfl rfl (k36_mkM _ _ _ _ (Kd.R_nil _ _ _ _ _) (Kd.R_nil _ _ _ _ _)) (fun _ hk => hk) (fun _ _ => trivial) (by (with_reducible repeat (first | apply Kd.R_alloc | apply Kd.R_drewN | apply Kd.R_drew)); exact HO1.out) (by (repeat (first | (with_reducible first | apply below_alloc | apply pw_below_drewN | apply below_drew1))); exact Hb1.out) (below_size (by (repeat (first | (with_reducible first | apply below_alloc | apply pw_below_drewN | apply below_drew1))); exact Hb1.out)) (by (try simp only [List.length_append, List.length_singleton]); omega) ?_; intro v2 w2 ho2 hb2 hg2 hat2; have hX2 := (hg2.block w.heap.size (box_lt HX1'.out) (fun e => ((Kd.R_types HO1.out HX1'.out (by decide)).1 _ e.symm).2 rfl)).trans HX1'.out; have hcX2 := box_cell hX2; have HX2 := Lib.hid hX2; have HO2 := Lib.hid ho2; have Hb2 := Lib.hid hb2; clear hX2 ho2 hb2 hg2 hat2))
              have hy1 : w2.cell? ⟨ad.block, ad.off + 2, none⟩ = some (.int .i64 y.f0) := (Hb2.out.cell (World.block_lt_of_cell? w _ HY0.out)).trans HY0.out
              go_quiet (fail)
              go_wp2_with (first | ((with_reducible refine gate_builtin (b := .append) (xs := #[.tmp 58, .tmp 60]) rfl ?_); at_builtin; refine Kd.R_append k36 (w0 := w) w.heap.size rfl (.tmp 58) (.tmp 60) 26 36 (.agg #[(.string ⟨#[]⟩), (.slice none 0 0), (.string ⟨#[]⟩), (.slice none 0 0)]) 80 rfl Try.underlying26 info36 rfl (by decide) (by omega) v2 (done ++ [tNode x.f1]) (bNode) [.string ⟨#[98, 114]⟩, .slice none 0 0, .string ⟨#[]⟩, .slice none 0 0] (fun _ => True) (fun k_ => True ∧ some k_ ≠ (v2 : Value).ownBlock) rfl rfl (k36_mkM _ _ _ _ (Kd.R_nil _ _ _ _ _) (Kd.R_nil _ _ _ _ _)) (fun _ hk => hk) (fun _ _ => trivial) (by (with_reducible repeat (first | apply Kd.R_alloc | apply Kd.R_drewN | apply Kd.R_drew)); exact HO2.out) (by (repeat (first | (with_reducible first | apply below_alloc | apply pw_below_drewN | apply below_drew1))); exact Hb2.out) (below_size (by (repeat (first | (with_reducible first | apply below_alloc | apply pw_below_drewN | apply below_drew1))); exact Hb2.out)) (by (try simp only [List.length_append, List.length_singleton]); omega) ?_; intro v4 w4 ho4 hb4 hg4 hat4; have hX4 := (hg4.block w.heap.size (box_lt HX2.out) (fun e => ((Kd.R_types HO2.out HX2.out (by decide)).1 _ e.symm).2 rfl)).trans HX2.out; have HX4 := Lib.hid hX4; have HO4 := Lib.hid ho4; have Hb4 := Lib.hid hb4; clear hX4 ho4 hb4 hg4 hat4))
              go_roundw
              case rel =>
                refine ⟨some (ad.add 2), c' - 1, (y :: r2), (done ++ [tNode x.f1]) ++ [bNode], by first | rfl | (simp; try omega; try rfl), by simp at hc' ⊢; try omega, by simp at hl' ⊢; try omega, by simp at hdl ⊢; try omega, Lib.hid (fun z hz => HALL'.out z (List.mem_cons_of_mem _ hz)), Lib.hid ?_, Lib.hid ?_, Lib.hid (by (with_reducible repeat (first | apply Kd.R_alloc | apply Kd.R_drewN | apply Kd.R_drew)); exact HO4.out), Lib.hid (by (repeat (first | (with_reducible first | apply below_alloc | apply pw_below_drewN | apply below_drew1))); exact Hb4.out), Lib.hid HX4.out⟩
                · rw [← HD.out, HQ.out, HT.out, HBR.out]; simp
                · have := HC4.out; rw [if_neg hc2] at this; exact this
              case measure => simp [sliceLen]
            · have hyd : decide (y.f0 ≤ lv) = false := decide_eq_false hy
              have HBR : Hid (brks lv (y :: r2) = []) := Lib.hid (by show (if y.f0 ≤ lv then [bNode] else []) = _; rw [if_neg hy])
              clear hy
              have hc2 : ¬ c' = 1 := by simp at hc'; omega
              go_wp2_with (first | ((with_reducible refine gate_builtin (b := .append) (xs := #[.tmp 37, .tmp 43]) rfl ?_); at_builtin; refine Kd.R_append k36 (w0 := w) w.heap.size rfl (.tmp 37) (.tmp 43) 26 36 (.agg #[(.string ⟨#[]⟩), (.slice none 0 0), (.string ⟨#[]⟩), (.slice none 0 0)]) 80 rfl Try.underlying26 info36 rfl (by decide) (by omega) u5 (done) (tNode x.f1) [.string ⟨#[]⟩, .slice none 0 0, .string x.f1, .slice none 0 0] (fun _ => True) (fun k_ => True ∧ some k_ ≠ (u5 : Value).ownBlock) rfl rfl (k36_mkM _ _ _ _ (Kd.R_nil _ _ _ _ _) (Kd.R_nil _ _ _ _ _)) (fun _ hk => hk) (fun _ _ => trivial) (by (with_reducible repeat (first | apply Kd.R_alloc | apply Kd.R_drewN | apply Kd.R_drew)); exact HO1.out) (by (repeat (first | (with_reducible first | apply below_alloc | apply pw_below_drewN | apply below_drew1))); exact Hb1.out) (below_size (by (repeat (first | (with_reducible first | apply below_alloc | apply pw_below_drewN | apply below_drew1))); exact Hb1.out)) (by (try simp only [List.length_append, List.length_singleton]); omega) ?_; intro v2 w2 ho2 hb2 hg2 hat2; have hX2 := (hg2.block w.heap.size (box_lt HX1'.out) (fun e => ((Kd.R_types HO1.out HX1'.out (by decide)).1 _ e.symm).2 rfl)).trans HX1'.out; have hcX2 := box_cell hX2; have HX2 := Lib.hid hX2; have HO2 := Lib.hid ho2; have Hb2 := Lib.hid hb2; clear hX2 ho2 hb2 hg2 hat2))
              have hy1 : w2.cell? ⟨ad.block, ad.off + 2, none⟩ = some (.int .i64 y.f0) := (Hb2.out.cell (World.block_lt_of_cell? w _ HY0.out)).trans HY0.out
              go_quiet (fail)
              go_wp2
              go_roundw
              case rel =>
                refine ⟨some (ad.add 2), c' - 1, (y :: r2), done ++ [tNode x.f1], by first | rfl | (simp; try omega; try rfl), by simp at hc' ⊢; try omega, by simp at hl' ⊢; try omega, by simp at hdl ⊢; try omega, Lib.hid (fun z hz => HALL'.out z (List.mem_cons_of_mem _ hz)), Lib.hid ?_, Lib.hid ?_, Lib.hid (by (with_reducible repeat (first | apply Kd.R_alloc | apply Kd.R_drewN | apply Kd.R_drew)); exact HO2.out), Lib.hid (by (repeat (first | (with_reducible first | apply below_alloc | apply pw_below_drewN | apply below_drew1))); exact Hb2.out), Lib.hid HX2.out⟩
                · rw [← HD.out, HQ.out, HT.out, HBR.out]; simp
                · have := HC4.out; rw [if_neg hc2] at this; exact this
              case measure => simp [sliceLen]

theorem rows_any : ∀ (d : Nat) (A : Option Addr) (c : Nat) (l : List S44) (lv : Int) (w : World) (hr : Kd.C k44 w A l.length l) (hc : l.length ≤ c) (hlen : l.length ≤ 100000) (hlv0 : 0 ≤ lv) (hlv : lv + d ≤ 1000) (hall : ∀ x ∈ l, x.f0 ≤ lv + d),
    Calls Try.prog 23 #[.slice A l.length c, .int .i64 lv] w (RowsPost w (rowsD d lv l))
  | 0, A, c, l, lv, w, hr, hc, hlen, hlv0, hlv, hall => rows_step 0 A c l lv w hr hc hlen hlv0 hlv hall (fun _ _ _ _ _ _ _ _ h => absurd h (by omega))
  | d + 1, A, c, l, lv, w, hr, hc, hlen, hlv0, hlv, hall => rows_step (d + 1) A c l lv w hr hc hlen hlv0 hlv hall (fun A' c' l' w' h1 h2 h3 h4 _ =>
      rows_any d A' c' l' (lv + 1) w' h1 h2 h3 (by omega) (by push_cast at hlv; omega) (fun x hx => by have := h4 x hx; push_cast at this; omega))
end Go.Proofs.Ythnbhcmekkadeaa
