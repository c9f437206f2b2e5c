/- Base64: what b64's own functions compute, walked: gather's closure, Encode, Decode. -/
import Derived.Test.YtpoifmcjahjphaaBld
import Derived.Test.YtpoifmcjahjphaaShelf
import Derived.Test.YtpoifmcjahjphaaWMore
import Derived.Deep.RegionWith
import Derived.Deep.RegionHeld3
import Derived.BigQuiet
import Derived.Lib.Hide
set_option linter.unusedVariables false
set_option linter.unusedSimpArgs false
namespace Go.Proofs.Ytpoifmcjahjphaa
open Go.RowKit Go.Proofs.YtpoifmcjahjphaaW.PrintWords

/-- Blocks of another type than bytes, and not b, stay. -/
def KeepT (w w' : World) (b : Nat) : Prop := ∀ k cells t, k ≠ b → w.heap[k]? = some (.cells cells t (0, 0)) → t ≠ 5 → w'.heap[k]? = w.heap[k]?
theorem KeepT.trans {w w1 w2 : World} {b : Nat} (h : KeepT w w1 b) (h2 : KeepT w1 w2 b) : KeepT w w2 b := fun k c t hk hc ht => by
  have := h k c t hk hc ht
  exact (h2 k c t hk (this.trans hc) ht).trans this
set_option maxHeartbeats 2000000 in
set_option maxRecDepth 100000 in
theorem writeByte_kept (B b : Nat) (bs : List Value) (c : Int) (w : World) (h : Lib.IsBuilder 33 5 B b bs w) (hlen : bs.length + 1 ≤ 140737488355328) (hBw : B ≤ w.heap.size) :
    Calls Try.prog 19 #[.pointer (some ⟨b, 0, none⟩), .int .u8 c] w fun e w' => e = .returned .nilIface ∧ (Lib.BuilderAt 33 5 B b (.pointer (some ⟨b, 0, none⟩)) (bs ++ [.int .u8 c]) w' ∧ Below B w w' ∧ KeepT w w' b) := by
  obtain ⟨i0, hi, hz0, hz1, hz2⟩ := info_parts bldByte
  have hcc : Calls Try.prog 29 #[.pointer (some ⟨b, 0, none⟩)] w fun e w' => e = .returned (.tuple #[]) ∧ (Lib.BuilderAt 33 5 B b (.pointer (some ⟨b, 0, none⟩)) bs w' ∧ Below B w w') ∧ (∀ k, k ≠ b → w'.heap[k]? = w.heap[k]?) := by
    rcases h with h | h
    · refine (copyCheck_fresh b w h.cell0 h.shape h.frozen0).mono ?_
      rintro e w' ⟨rfl, rfl⟩
      exact ⟨rfl, ⟨h.used _, (Below.refl B w).setCell (p := ⟨b, 0, none⟩) h.1 _⟩, fun k hk => Below.heap_setCell w ⟨b, 0, none⟩ _ k hk⟩
    · refine (copyCheck_used b w h.cell0).mono ?_
      rintro e w' ⟨rfl, rfl⟩
      exact ⟨rfl, ⟨h, Below.refl B _⟩, fun _ _ => rfl⟩
  go_enter Try.func19, Try.ntmps19
  go_wp2_with fail
  refine hcc.mono ?_
  rintro e w1 ⟨rfl, ⟨h1, hb1⟩, hsame⟩
  clear hcc
  obtain ⟨hB, v, hbk, hown, hne⟩ := h1
  have c0 : w1.cell? ⟨b, 0, none⟩ = some (.pointer (some ⟨b, 0, none⟩)) := by rw [Lib.cell_of_heap hbk]; rfl
  have c1 : w1.cell? ⟨b, 1, none⟩ = some v := by rw [Lib.cell_of_heap hbk]; rfl
  have HS := Lib.hid hsame
  clear hsame
  go_wp2_with (at_builtin; refine wpList_append_own _ rfl _ _ 29 rfl B 5 i0 (.int .u8 0) 1 1 Try.underlying29 hi hz0 hz1 hz2 rfl (by decide) _ _ _ rfl (hown.alloc _) ⟨w1.heap.size, 0, none⟩ 1 1 [.int .u8 c] rfl rfl ?c1 ?c2 ?c3 ?c4 ?c5 ?_)
  case c1 =>
    intro j u hj
    match j, hj with
    | 0, hj => simp at hj; subst hj; simp [Addr.add]
  case c2 => intro u hu; simp at hu; subst hu; rfl
  case c3 => unfold maxLen; omega
  case c4 => omega
  case c5 => have := hb1.size; simp; omega
  intro v' w2 hown' hgrow _
  have hlt := bld_lt hbk
  have hb2 : w2.heap[b]? = some (.cells #[.pointer (some ⟨b, 0, none⟩), v] 33 (0, 0)) := by
    rw [hgrow.block b (by simp; omega) (fun e => hne e.symm), Lib.alloc_old w1 _ b hlt]
    exact hbk
  have HK : Hid (KeepT w w2 b) := Lib.hid (fun k cells t hk hc ht => by
    have e1 := HS.out k hk
    have hk1 : w1.heap[k]? = some (.cells cells t (0, 0)) := e1.trans hc
    have hlt1 := bld_lt hk1
    have hnk : some k ≠ v.ownBlock := by
      intro he
      obtain ⟨cs, hcs⟩ := own_typed hown k he.symm
      rw [hcs] at hk1
      injection hk1 with hk1
      injection hk1 with _ hk1
      exact ht hk1.symm
    rw [hgrow.block k (by simp; omega) hnk, Lib.alloc_old w1 _ k hlt1]
    exact e1)
  have d0 : w2.cell? ⟨b, 0, none⟩ = some (.pointer (some ⟨b, 0, none⟩)) := by rw [Lib.cell_of_heap hb2]; rfl
  have d1 : w2.cell? ⟨b, 1, none⟩ = some v := by rw [Lib.cell_of_heap hb2]; rfl
  have f1 : w2.frozen? ⟨b, 1, none⟩ = false := Lib.frozen_of_heap hb2 1
  obtain ⟨g, cap, rfl⟩ : ∃ g cap, v' = .slice (some ⟨g, 0, none⟩) (bs.length + 1) cap := by
    rcases hown'.2 with ⟨_, h0⟩ | ⟨g, cap, cur, hv, _⟩
    · omega
    · exact ⟨g, cap, hv⟩
  go_wp2
  go_ret
  refine ⟨rfl, ?_, ?_, ?_⟩
  · exact Lib.BuilderAt.put (T := 33) (e := 5) hB hb2 (bs' := bs ++ [.int .u8 c]) (by simpa using hown') (by decide)
  · exact ((hb1.alloc (by have := hb1.size; omega) _).grown hgrow (by have := hb1.size; simp; omega) (fun k hk => (hown.lt k hk).1)).setCell (p := ⟨b, 1, none⟩) hB _
  · intro k cells t hk hc ht
    rw [Below.heap_setCell w2 ⟨b, 1, none⟩ _ k hk]
    exact HK.out k cells t hk hc ht

/-- The five boxes of a gather: how many bits come, how many go, where to, all, and how many bits are left. -/
structure Boxes (h : Nat) (F : Value) (fr to_ all bits : Int) (W : World) : Prop where
  b0 : W.heap[h]? = some (.cells #[.int .i64 fr] 3 (0, 0))
  b1 : W.heap[h + 1]? = some (.cells #[.int .i64 to_] 3 (0, 0))
  b2 : W.heap[h + 2]? = some (.cells #[F] 39 (0, 0))
  b3 : W.heap[h + 3]? = some (.cells #[.int .i64 all] 3 (0, 0))
  b4 : W.heap[h + 4]? = some (.cells #[.int .i64 bits] 3 (0, 0))
def gatherF (h : Nat) : Value := .func (.func 28) #[] #[.pointer (some ⟨h + 3, 0, none⟩), .pointer (some ⟨h, 0, none⟩), .pointer (some ⟨h + 4, 0, none⟩), .pointer (some ⟨h + 1, 0, none⟩), .pointer (some ⟨h + 2, 0, none⟩)]
set_option maxHeartbeats 2000000 in
theorem gather_any (fr to_ : Int) (fid : Nat) (cap : Value) (w : World) :
    Calls Try.prog 17 #[.int .i64 fr, .int .i64 to_, .func (.func fid) #[] #[cap]] w fun e w' => e = .returned (gatherF w.heap.size) ∧ Boxes w.heap.size (.func (.func fid) #[] #[cap]) fr to_ 0 0 w' ∧ Below w.heap.size w w' := by
  have hmf : ∀ (fn : Fn) (first cap : Array Value) (w : World), (Instr.makeFunc fn first cap).run Try.prog w = .ok (.func fn first cap) w := fun _ _ _ _ => rfl
  go_enter Try.func17, Try.ntmps17
  go_wp2
  go_ret
  have hs : ∀ (W : World) (o : Obj), (W.alloc o).heap.size = W.heap.size + 1 := fun W o => by simp
  have old : ∀ (W : World) (o : Obj) (k : Nat), k < W.heap.size → (W.alloc o).heap[k]? = W.heap[k]? := fun W o k hk => Lib.alloc_old W o k hk
  have new : ∀ (W : World) (o : Obj) (k : Nat), k = W.heap.size → (W.alloc o).heap[k]? = some o := fun W o k hk => by subst hk; exact heap_alloc_new W o
  refine ⟨rfl, ⟨?_, ?_, ?_, ?_, ?_⟩, ?_⟩
  · rw [old _ _ _ (by simp only [hs]; omega), old _ _ _ (by simp only [hs]; omega), old _ _ _ (by simp only [hs]; omega), old _ _ _ (by simp only [hs]; omega), new _ _ _ rfl]
  · rw [old _ _ _ (by simp only [hs]; omega), old _ _ _ (by simp only [hs]; omega), old _ _ _ (by simp only [hs]; omega), new _ _ _ (by simp only [hs])]
  · rw [old _ _ _ (by simp only [hs]; omega), old _ _ _ (by simp only [hs]; omega), new _ _ _ (by simp only [hs])]
  · rw [old _ _ _ (by simp only [hs]; omega), new _ _ _ (by simp only [hs])]
  · rw [new _ _ _ (by simp only [hs])]
  · exact (((((Below.refl _ _).alloc (Nat.le_refl _) _).alloc (by simp only [hs]; omega) _).alloc (by simp only [hs]; omega) _).alloc (by simp only [hs]; omega) _).alloc (by simp only [hs]; omega) _
end Go.Proofs.Ytpoifmcjahjphaa
