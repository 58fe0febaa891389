/- By hand: the decoder's state, and the builder that lies at its head. -/
import Derived.Test.YtoejbjmdcokojaaDoorProg
import Derived.Test.YtoejbjmdcokojaaDoorWWords
import Derived.Test.YtoejbjmdcokojaaDoorWMore
import Derived.Tactics
import Derived.Tactics2
import Derived.Laws.Pointers
import Derived.Laws.NewBlocks
import Derived.Laws.Externs
import Derived.RegionTactic
import Derived.RegionCalls
import Derived.OwnWalk
import Derived.Deep.OwnRows
import Derived.Deep.LoopGhost
import Derived.Deep.DeepCutAuto
import Derived.Deep.QuietTactic
import Derived.BigQuiet
import Derived.WalkKit
import Derived.Below
import Derived.Lib.Builder
import Derived.Lib.AppendStr
import Derived.Laws.OwnMore
import Derived.Laws.Closers25
import Derived.KernelRfl
import Derived.Deep.MidRow
namespace Go.Proofs.YtoejbjmdcokojaaDoor.Hand
set_option linter.unusedVariables false
set_option linter.unusedSimpArgs false
open Go Go.RowKit Go.Proofs.YtoejbjmdcokojaaDoorW.PrintWords

def bytesV (l : List UInt8) : List Value := l.map fun b => Value.int .u8 b.toNat
theorem bytesV_append (a b : List UInt8) : bytesV (a ++ b) = bytesV a ++ bytesV b := by simp [bytesV]
theorem bytesV_length (a : List UInt8) : (bytesV a).length = a.length := by simp [bytesV]
theorem strCells_of {t : ByteArray} {l : List UInt8} (h : t.data.toList = l) : Lib.strCells t = bytesV l := by rw [← h]; rfl
theorem byte_info : (Tryd.prog.info? 5).map (fun i => (i.zero, i.size, i.bytes)) = some (some (.int .u8 0), 1, 1) := by kernel_rfl
theorem bld_size : (Tryd.prog.info? 38).map (·.size) = some 2 := by kernel_rfl
theorem dec_lies : liesAt Tryd.prog Tryd.prog.depth 42 (6 / Tryd.prog.cellsOf 42) 0 38 1 = true := by kernel_rfl

/-- Block b is a decoder: what it has told; what is open (o, whatever it holds), how many bytes that lacks, and what the next one may be. -/
structure DecV (B b : Nat) (p v o : Value) (bs : List UInt8) (k lo hi : Int) (w : World) : Prop where
  base : B ≤ b
  blk : w.heap[b]? = some (.cells #[p, v, o, .int .i64 k, .int .u8 lo, .int .u8 hi] 42 (0, 0))
  ptr : p = .pointer none ∨ p = .pointer (some ⟨b, 0, none⟩)
  ownV : w.ownsRow B 5 1 v bs.length (bytesV bs)

section
variable {B b : Nat} {p v o : Value} {bs : List UInt8} {k lo hi : Int} {w : World}
theorem DecV.lt (h : DecV B b p v o bs k lo hi w) : b < w.heap.size := by
  have := h.blk
  rcases Nat.lt_or_ge b w.heap.size with h' | h'
  · exact h'
  · simp [Array.getElem?_eq_none h'] at this
theorem DecV.cell (h : DecV B b p v o bs k lo hi w) (j : Nat) : w.cell? ⟨b, j, none⟩ = #[p, v, o, .int .i64 k, .int .u8 lo, .int .u8 hi][j]? := Lib.cell_of_heap h.blk j
theorem DecV.frozen (h : DecV B b p v o bs k lo hi w) (j : Nat) : w.frozen? ⟨b, j, none⟩ = false := Lib.frozen_of_heap h.blk j
theorem DecV.neV (h : DecV B b p v o bs k lo hi w) : v.ownBlock ≠ some b := Lib.ownBlock_ne h.ownV h.blk (by decide)
theorem own_set {w : World} {B b n : Nat} {v : Value} {xs : List Value} (h : w.ownsRow B 5 1 v n xs) (hne : v.ownBlock ≠ some b) (j : Nat) (u : Value) : (w.setCell ⟨b, j, none⟩ u).ownsRow B 5 1 v n xs :=
  World.ownsRow.kept (row := some b) h ⟨rfl, rfl, rfl, by simp [World.setCell], fun k _ hk => Below.heap_setCell _ _ _ _ (fun e => hk (by simp [e]))⟩ (Or.inr hne)
theorem set_blk {w : World} {b : Nat} {cs : Array Value} (hb : w.heap[b]? = some (.cells cs 42 (0, 0))) (j : Nat) (u : Value) : (w.setCell ⟨b, j, none⟩ u).heap[b]? = some (.cells (cs.setIfInBounds j u) 42 (0, 0)) := by
  simp only [World.setCell, Array.getElem?_modify, hb]
  rfl
/-- A store into the decoder's block. -/
theorem DecV.store (h : DecV B b p v o bs k lo hi w) {p' v' o' : Value} {bs' : List UInt8} {k' lo' hi' : Int} (j : Nat) (u : Value)
    (hc : (#[p, v, o, .int .i64 k, .int .u8 lo, .int .u8 hi] : Array Value).setIfInBounds j u = #[p', v', o', .int .i64 k', .int .u8 lo', .int .u8 hi'])
    (hp : p' = .pointer none ∨ p' = .pointer (some ⟨b, 0, none⟩)) (hv : w.ownsRow B 5 1 v' bs'.length (bytesV bs')) :
    DecV B b p' v' o' bs' k' lo' hi' (w.setCell ⟨b, j, none⟩ u) := by
  have nv : v'.ownBlock ≠ some b := Lib.ownBlock_ne hv h.blk (by decide)
  refine ⟨h.base, ?_, hp, own_set hv nv j u⟩
  rw [set_blk h.blk, hc]
theorem DecV.below {w' : World} (h : DecV B b p v o bs k lo hi w) (hb : Below w.heap.size w w') : DecV B b p v o bs k lo hi w' :=
  ⟨h.base, (hb.block b h.lt).trans h.blk, h.ptr, pw_own_below h.ownV hb⟩
end
theorem slice_of_own {w : World} {B e n : Nat} {v : Value} {xs : List Value} (h : w.ownsRow B e 1 v n xs) : ∃ ao n' cap, v = .slice ao n' cap := by
  rcases h.2 with ⟨hv, h0⟩ | ⟨g, cap, cur, hv, _⟩
  · exact ⟨_, _, _, hv⟩
  · exact ⟨_, _, _, hv⟩

set_option maxHeartbeats 400000 in
set_option maxRecDepth 100000 in
theorem dec_check {B b : Nat} {p v o : Value} {bs : List UInt8} {k lo hi : Int} {w : World} (h : DecV B b p v o bs k lo hi w) :
    Calls Tryd.prog 32 #[.pointer (some ⟨b, 0, none⟩)] w fun e w' => e = .returned (.tuple #[]) ∧ DecV B b (.pointer (some ⟨b, 0, none⟩)) v o bs k lo hi w' ∧ Below B w w' ∧ ∀ k, k ≠ b → w'.heap[k]? = w.heap[k]? := by
  obtain ⟨j, hj, hjs⟩ := Option.map_eq_some_iff.1 bld_size
  have c0 := h.cell 0
  have z0 := h.frozen 0
  have hsh : w.shape? b = some (42, 6) := by simp [World.shape?, h.blk]
  have HB0 := Aside0.mk h
  rcases h.ptr with hp | hp
  · rw [hp] at c0
    have c0' : w.cell? ⟨b, 0, none⟩ = some (.pointer none) := c0
    have HW : Aside0 (DecV B b (.pointer (some ⟨b, 0, none⟩)) v o bs k lo hi (w.setCell ⟨b, 0, none⟩ (.pointer (some ⟨b, 0, none⟩)))) := ⟨h.store 0 _ rfl (.inr rfl) h.ownV⟩
    have hBb := h.base
    clear h c0
    go_enter Tryd.func32, Tryd.ntmps32
    go_wp2_with fail
    rw [Lib.run_to_unsafe w ⟨b, 0, none⟩ Tryd.underlying36 Tryd.underlying65 hj (by rw [hjs]; decide) hsh (show 0 < 6 by omega)]
    simp only [Result.andThen]
    rw [Oper.upon_value]
    go_wp2_with fail
    rw [run_callFunc_extern Tryd.func38 (by kernel_rfl) (by kernel_rfl) (by kernel_rfl) (e := Extern.AbiNoEscape.same) (by kernel_rfl)]
    rw [Lib.run_noEscape]
    simp only [Result.andThen]
    rw [Oper.upon_value]
    go_wp2_with fail
    rw [Lib.run_from_unsafe w ⟨b, 0, none⟩ Tryd.underlying65 Tryd.underlying36 hj hsh dec_lies]
    simp only [Result.andThen]
    rw [Oper.upon_value]
    go_wp2
    go_end0
    exact ⟨rfl, HW.out, (Below.refl B w).setCell (p := ⟨b, 0, none⟩) hBb _, fun k hk => Below.heap_setCell _ _ _ _ hk⟩
  · rw [hp] at c0 HB0
    have c0' : w.cell? ⟨b, 0, none⟩ = some (.pointer (some ⟨b, 0, none⟩)) := c0
    clear h c0
    go_enter Tryd.func32, Tryd.ntmps32
    go_wp2
    rw [Lib.run_neq_ptr_same w _ Tryd.underlying36 hj]
    go_wp2
    go_end0
    exact ⟨rfl, HB0.out, Below.refl B _, fun _ _ => rfl⟩

/-- What a builder's write leaves. -/
def Told (B b : Nat) (o : Value) (bs : List UInt8) (k lo hi : Int) (w w' : World) : Prop := (∃ v, DecV B b (.pointer (some ⟨b, 0, none⟩)) v o bs k lo hi w') ∧ Below B w w'
theorem told_of {B b : Nat} {v v' o : Value} {bs bs' : List UInt8} {k lo hi : Int} {w w1 w2 : World} (h1 : DecV B b (.pointer (some ⟨b, 0, none⟩)) v o bs k lo hi w1) (hb : Below B w w1) (hBw : B ≤ w.heap.size) (hown' : w2.ownsRow B 5 1 v' bs'.length (bytesV bs')) (hgrow : w1.grownBy w2 v.ownBlock) :
    Told B b o bs' k lo hi w (w2.setCell ⟨b, 1, none⟩ v') := by
  have hb2 : w2.heap[b]? = some (.cells #[.pointer (some ⟨b, 0, none⟩), v, o, .int .i64 k, .int .u8 lo, .int .u8 hi] 42 (0, 0)) := by
    rw [hgrow.block b h1.lt (fun e => h1.neV e.symm)]
    exact h1.blk
  have nv : v'.ownBlock ≠ some b := Lib.ownBlock_ne hown' hb2 (by decide)
  refine ⟨⟨v', h1.base, ?_, .inr rfl, own_set hown' nv 1 v'⟩, ?_⟩
  · rw [set_blk hb2]; rfl
  · exact (hb.grown hgrow (by have := hb.size; omega) (fun k hk => (h1.ownV.lt k hk).1)).setCell (p := ⟨b, 1, none⟩) h1.base _
theorem told_cell {B b : Nat} {v o : Value} {bs : List UInt8} {k lo hi : Int} {w1 w2 : World} (h1 : DecV B b (.pointer (some ⟨b, 0, none⟩)) v o bs k lo hi w1) (hgrow : w1.grownBy w2 v.ownBlock) :
    w2.cell? ⟨b, 1, none⟩ = some v ∧ w2.frozen? ⟨b, 1, none⟩ = false := by
  have hb2 : w2.heap[b]? = some (.cells #[.pointer (some ⟨b, 0, none⟩), v, o, .int .i64 k, .int .u8 lo, .int .u8 hi] 42 (0, 0)) := by
    rw [hgrow.block b h1.lt (fun e => h1.neV e.symm)]
    exact h1.blk
  exact ⟨by rw [Lib.cell_of_heap hb2]; rfl, Lib.frozen_of_heap hb2 1⟩

set_option maxHeartbeats 800000 in
set_option maxRecDepth 100000 in
theorem dec_string {B b : Nat} {p v o : Value} {bs : List UInt8} {k lo hi : Int} {w : World} (s : ByteArray) (h : DecV B b p v o bs k lo hi w) (hlen : bs.length + s.size ≤ 140737488355328) (hBw : B ≤ w.heap.size) :
    Calls Tryd.prog 29 #[.pointer (some ⟨b, 0, none⟩), .string s] w fun e w' => e = .returned (.tuple #[.int .i64 s.size, .nilIface]) ∧ Told B b o (bs ++ s.data.toList) k lo hi w w' := by
  obtain ⟨i0, hi0, hz0, hz1, hz2⟩ := info_parts byte_info
  go_enter Tryd.func29, Tryd.ntmps29
  go_wp2_with fail
  refine (dec_check h).mono ?_
  rintro e w1 ⟨rfl, h1, hb1, hk1⟩
  have c1 : w1.cell? ⟨b, 1, none⟩ = some v := h1.cell 1
  have hown := h1.ownV
  go_wp2_with (at_builtin; refine Lib.wpList_append_own_string _ rfl _ _ 23 9 rfl B 5 i0 Tryd.underlying23 Tryd.underlying9 hi0 hz0 hz1 hz2 _ _ _ rfl hown s rfl ?c3 ?c4 ?c5 ?_)
  case c3 => unfold maxLen; omega
  case c4 => omega
  case c5 => have := hb1.size; omega
  intro v' w2 hown' hgrow _
  have hs : bs.length + s.size = (bs ++ s.data.toList).length := by rw [List.length_append]; simp only [Array.length_toList]; rfl
  rw [strCells_of rfl, ← bytesV_append, hs] at hown'
  obtain ⟨d1, f1⟩ := told_cell h1 hgrow
  obtain ⟨ao, n', cap, rfl⟩ := slice_of_own hown'
  have HW := Aside0.mk (told_of h1 hb1 hBw hown' hgrow)
  clear hown' hgrow hown h1
  go_wp2
  go_ret2
  exact ⟨rfl, HW.out⟩

set_option maxHeartbeats 800000 in
set_option maxRecDepth 100000 in
theorem dec_byte {B b : Nat} {p v o : Value} {bs : List UInt8} {k lo hi : Int} {w : World} (c : UInt8) (h : DecV B b p v o bs k lo hi w) (hlen : bs.length + 1 ≤ 140737488355328) (hBw : B ≤ w.heap.size) :
    Calls Tryd.prog 31 #[.pointer (some ⟨b, 0, none⟩), .int .u8 c.toNat] w fun e w' => e = .returned .nilIface ∧ Told B b o (bs ++ [c]) k lo hi w w' := by
  obtain ⟨i0, hi0, hz0, hz1, hz2⟩ := info_parts byte_info
  go_enter Tryd.func31, Tryd.ntmps31
  go_wp2_with fail
  refine (dec_check h).mono ?_
  rintro e w1 ⟨rfl, h1, hb1, hk1⟩
  have c1 : w1.cell? ⟨b, 1, none⟩ = some v := h1.cell 1
  have hown := h1.ownV
  have hbl := h1.lt
  go_wp2_with (at_builtin; refine wpList_append_own _ rfl _ _ 23 rfl B 5 i0 (.int .u8 0) 1 1 Tryd.underlying23 hi0 hz0 hz1 hz2 rfl (by decide) _ _ _ rfl (hown.alloc _) ⟨w1.heap.size, 0, none⟩ 1 1 [.int .u8 c.toNat] rfl rfl ?c1 ?c2 ?c3 ?c4 ?c5 ?_)
  case c1 =>
    intro j u hj
    match j, hj with
    | 0, hj => simp at hj; subst hj; simp [Addr.add]
  case c2 => intro u hu; simp at hu; subst hu; rfl
  case c3 => unfold maxLen; omega
  case c4 => omega
  case c5 => have := hb1.size; simp; omega
  intro v' w2 hown' hgrow _
  rw [show bytesV bs ++ [.int .u8 c.toNat] = bytesV (bs ++ [c]) by rw [bytesV_append]; rfl, show bs.length + 1 = (bs ++ [c]).length by simp] at hown'
  have h2 := h1.below (below_alloc (Below.refl w1.heap.size w1) (.cells #[.int .u8 c.toNat] 5))
  have hb2 : Below B w (w1.alloc (.cells #[.int .u8 c.toNat] 5)) := hb1.alloc (by have := hb1.size; omega) _
  obtain ⟨d1, f1⟩ := told_cell h2 hgrow
  obtain ⟨ao, n', cap, rfl⟩ := slice_of_own hown'
  have HW := Aside0.mk (told_of h2 hb2 hBw hown' hgrow)
  clear hown' hgrow hown h1 h2
  go_wp2
  go_ret
  exact ⟨rfl, HW.out⟩

set_option maxHeartbeats 800000 in
set_option maxRecDepth 100000 in
theorem dec_write {B b g cap : Nat} {p v o : Value} {bs op : List UInt8} {k lo hi : Int} {w : World} (h : DecV B b p v o bs k lo hi w) (hop : w.ownsRow B 5 1 (.slice (some ⟨g, 0, none⟩) op.length cap) op.length (bytesV op)) (hgb : g ≠ b) (hlen : bs.length + op.length ≤ 140737488355328) (hBw : B ≤ w.heap.size) :
    Calls Tryd.prog 25 #[.pointer (some ⟨b, 0, none⟩), .slice (some ⟨g, 0, none⟩) op.length cap] w fun e w' => e = .returned (.tuple #[.int .i64 op.length, .nilIface]) ∧ Told B b o (bs ++ op) k lo hi w w' := by
  obtain ⟨i0, hi0, hz0, hz1, hz2⟩ := info_parts byte_info
  obtain ⟨n, hn⟩ : ∃ n, n = op.length := ⟨_, rfl⟩
  rw [← hn] at hop hlen ⊢
  have HN := Aside0.mk hn
  clear hn
  go_enter Tryd.func25, Tryd.ntmps25
  go_wp2_with fail
  refine (dec_check h).mono ?_
  rintro e w1 ⟨rfl, h1, hb1, hk1⟩
  have c1 : w1.cell? ⟨b, 1, none⟩ = some v := h1.cell 1
  have hown := h1.ownV
  have hop1 : w1.ownsRow B 5 1 (.slice (some ⟨g, 0, none⟩) n cap) n (bytesV op) := by
    obtain ⟨q1, q2⟩ := hop
    refine ⟨q1, ?_⟩
    rcases q2 with ⟨e, _⟩ | ⟨g', cap', cur, e, e2, e3, e4⟩
    · cases e
    · refine .inr ⟨g', cap', cur, e, e2, ?_, e4⟩
      have : g' = g := by injection e with e _ _; injection e with e; exact (congrArg Addr.block e).symm
      rw [hk1 g' (by rw [this]; exact hgb)]
      exact e3
  go_wp2_with (at_builtin; refine wpList_append_own _ rfl _ _ 23 rfl B 5 i0 (.int .u8 0) 1 1 Tryd.underlying23 hi0 hz0 hz1 hz2 rfl (by decide) _ _ _ rfl hown ⟨g, 0, none⟩ n cap (bytesV op) rfl ?c0 ?c1 ?c2 ?c3 ?c4 ?c5 ?_)
  case c0 => rw [bytesV_length, HN.out, Nat.mul_one]
  case c1 =>
    intro j u hj
    exact hop1.cells (g := g) rfl j u hj
  case c2 => intro u hu; simp only [bytesV, List.mem_map] at hu; obtain ⟨c, _, rfl⟩ := hu; rfl
  case c3 => unfold maxLen; omega
  case c4 => omega
  case c5 => have := hb1.size; omega
  intro v' w2 hown' hgrow _
  rw [← bytesV_append, HN.out, ← List.length_append] at hown'
  obtain ⟨d1, f1⟩ := told_cell h1 hgrow
  obtain ⟨ao, n', cap', rfl⟩ := slice_of_own hown'
  have HW := Aside0.mk (told_of h1 hb1 hBw hown' hgrow)
  clear hown' hgrow hown h1 hop1
  go_wp2
  go_ret2
  exact ⟨rfl, HW.out⟩
end Go.Proofs.YtoejbjmdcokojaaDoor.Hand
