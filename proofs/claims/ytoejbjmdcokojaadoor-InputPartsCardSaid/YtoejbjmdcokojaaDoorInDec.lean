/- By hand: the decoder's state, and the builder that lies at its head. -/
import Derived.Test.YtoejbjmdcokojaaDoorProg
import Derived.Test.YtoejbjmdcokojaaDoorWWords
import Derived.Test.YtoejbjmdcokojaaDoorWMore
import Derived.Tactics
import Derived.Tactics2
import Derived.Laws.Pointers
import Derived.Laws.NewBlocks
import Derived.Laws.Externs
import Derived.RegionTactic
import Derived.RegionCalls
import Derived.OwnWalk
import Derived.Deep.OwnRows
import Derived.Deep.LoopGhost
import Derived.Deep.DeepCutAuto
import Derived.Deep.QuietTactic
import Derived.BigQuiet
import Derived.WalkKit
import Derived.Below
import Derived.Lib.Builder
import Derived.Lib.AppendStr
import Derived.Lib.FrozenHead2
import Derived.Laws.OwnMore
import Derived.Laws.Closers25
import Derived.KernelRfl
import Derived.Deep.MidRow
namespace Go.Proofs.YtoejbjmdcokojaaDoor.Hand
set_option linter.unusedVariables false
set_option linter.unusedSimpArgs false
open Go Go.RowKit Go.Proofs.YtoejbjmdcokojaaDoorW.PrintWords

def bytesV (l : List UInt8) : List Value := l.map fun b => Value.int .u8 b.toNat
theorem bytesV_append (a b : List UInt8) : bytesV (a ++ b) = bytesV a ++ bytesV b := by simp [bytesV]
theorem bytesV_length (a : List UInt8) : (bytesV a).length = a.length := by simp [bytesV]
theorem strCells_of {t : ByteArray} {l : List UInt8} (h : t.data.toList = l) : Lib.strCells t = bytesV l := by rw [← h]; rfl
theorem byte_info : (Tryd.prog.info? 5).map (fun i => (i.zero, i.size, i.bytes)) = some (some (.int .u8 0), 1, 1) := by kernel_rfl
theorem bld_size : (Tryd.prog.info? 38).map (·.size) = some 2 := by kernel_rfl
theorem dec_lies : liesAt Tryd.prog Tryd.prog.depth 42 (6 / Tryd.prog.cellsOf 42) 0 38 1 = true := by kernel_rfl

section
open Go.Lib
variable {P : Program} (w : World)
/-- Where the new slice lies: in the old one's block, or in a new one. -/
theorem app_str_at (base : Nat) (t u ty e : TypeId) (i : TypeInfo) (ht : P.underlying t = some (.slice e)) (hu : P.underlying u = some .string) (hi : P.info? e = some i) (hz : i.zero = some (.int .u8 0)) (hsize : i.size = 1) (hby : i.bytes = 1)
    (v : Value) (n : Nat) (xs : List Value) (hown : w.ownsRowF base e 1 v n xs) (s : ByteArray) (h63 : n + s.size ≤ maxLen) (hbytes : n + s.size ≤ 140737488355328) (hbase : base ≤ w.heap.size) :
    ∃ v' w', (Builtin.append_ #[t, u] ty #[v, .string s]).run P w = .ok v' w' ∧ w'.ownsRowF base e 1 v' (n + s.size) (xs ++ strCells s) ∧ w.grownBy w' v.ownBlock ∧ ∀ g, v'.ownBlock = some g → v.ownBlock = some g ∨ w.heap.size ≤ g := by
  obtain ⟨v', w', hr, h2, h3, _⟩ := run_append_own_stringF (P := P) w base t u ty e i ht hu hi hz hsize hby v n xs hown s h63 hbytes hbase
  refine ⟨v', w', hr, h2, h3, fun g hg => ?_⟩
  rcases hown.2 with ⟨rfl, rfl⟩ | ⟨g0, cap, cur, fz, rfl, _, hgg, hfz, hnc, hcm, hcs, _⟩
  · obtain ⟨v2, w2, hr2, k2, _⟩ := run_append_own_stringF (P := P) w w.heap.size t u ty e i ht hu hi hz hsize hby (.slice none 0 0) 0 xs ⟨hown.1, .inl ⟨rfl, rfl⟩⟩ s h63 hbytes (Nat.le_refl _)
    rw [hr] at hr2
    injection hr2 with e1 e2
    subst e1 e2
    exact .inr (k2.lt g hg).1
  · by_cases hroom : n + s.size ≤ cap
    · have hr2 := run_append_room_stringF (P := P) w t u ty e i ht hu hi hsize g0 n cap cur fz hgg (by simpa using hfz) s hroom (by simp at hcs; omega)
      rw [hr] at hr2
      injection hr2 with e1 _
      subst e1
      exact .inl hg
    · have hr2 := run_append_grow_string (P := P) w t u ty e i (.int .u8 0) ht hu hi hz ⟨g0, 0, none⟩ n cap xs (by rw [hsize]; simpa using hown.1) (hown.cells (g := g0) rfl) s (by omega) (by unfold maxLen at h63; omega) (by rw [hby]; exact growslice_fits (by omega) (by omega))
      rw [hr] at hr2
      injection hr2 with e1 _
      subst e1
      simp only [Value.ownBlock, Option.some.injEq] at hg
      exact .inr (by omega)
theorem app_own_at (base : Nat) (t ty e : TypeId) (i : TypeInfo) (z : Value) (size bytes : Nat) (ht : P.underlying t = some (.slice e)) (hi : P.info? e = some i) (hz : i.zero = some z) (hsize : i.size = size) (hby : i.bytes = bytes) (hzs : z.cells.size = size) (hsz : 0 < size)
    (v : Value) (n : Nat) (xs : List Value) (hown : w.ownsRowF base e size v n xs) (a : Addr) (m c : Nat) (news : List Value) (hl : news.length = m * size) (hnews : ∀ j u, news[j]? = some u → w.cell? (a.add j) = some u) (h1 : ∀ u ∈ news, u.oneCell' = true)
    (h63 : n + m ≤ maxLen) (hbytes : (n + m) * bytes ≤ 140737488355328) (hbase : base ≤ w.heap.size) :
    ∃ v' w', (Builtin.append_ #[t, t] ty #[v, .slice (some a) m c]).run P w = .ok v' w' ∧ w'.ownsRowF base e size v' (n + m) (xs ++ news) ∧ w.grownBy w' v.ownBlock ∧ ∀ g, v'.ownBlock = some g → v.ownBlock = some g ∨ w.heap.size ≤ g := by
  obtain ⟨v', w', hr, h2, h3, _⟩ := run_append_ownF (P := P) w base t ty e i z size bytes ht hi hz hsize hby hzs hsz v n xs hown a m c news hl hnews h1 h63 hbytes hbase
  refine ⟨v', w', hr, h2, h3, fun g hg => ?_⟩
  rcases hown.2 with ⟨rfl, rfl⟩ | ⟨g0, cap, cur, fz, rfl, _, hgg, hfz, hnc, hcm, hcs, _⟩
  · obtain ⟨v2, w2, hr2, k2, _⟩ := run_append_ownF (P := P) w w.heap.size t ty e i z size bytes ht hi hz hsize hby hzs hsz (.slice none 0 0) 0 xs ⟨hown.1, .inl ⟨rfl, rfl⟩⟩ a m c news hl hnews h1 h63 hbytes (Nat.le_refl _)
    rw [hr] at hr2
    injection hr2 with e1 e2
    subst e1 e2
    exact .inr (k2.lt g hg).1
  · subst hsize hby
    by_cases hroom : n + m ≤ cap
    · have hfit : n * i.size + news.length ≤ cur.size := by rw [hl, hcs, ← Nat.add_mul]; exact Nat.mul_le_mul_right _ hroom
      have hr2 := run_append_roomF (P := P) w t ty e i ht hi g0 n cap cur fz hgg hfz a m c news hl hnews h1 hroom hfit
      rw [hr] at hr2
      injection hr2 with e1 _
      subst e1
      exact .inl hg
    · have hr2 := run_append_grow (P := P) w t ty e i z ht hi hz ⟨g0, 0, none⟩ n cap xs hown.1 (hown.cells (g := g0) rfl) a m c news hl hnews (by omega) (by unfold maxLen at h63; omega) (growslice_fits (by omega) hbytes)
      rw [hr] at hr2
      injection hr2 with e1 _
      subst e1
      simp only [Value.ownBlock, Option.some.injEq] at hg
      exact .inr (by omega)
theorem wpList_app_str {ops : Array Oper} {rest : List Oper} {o : Oper} {a : Act} {K0 : Exit → Act → World → Prop} (hgd : o.guard = none) (sl x : Operand) (t u : TypeId) (ho : o.op = .call { callee := .builtin .append, args := #[sl, x], argTypes := #[t, u] })
    (base : Nat) (e : TypeId) (i : TypeInfo) (ht : P.underlying t = some (.slice e)) (hu : P.underlying u = some .string) (hi : P.info? e = some i) (hz : i.zero = some (.int .u8 0)) (hsize : i.size = 1) (hby : i.bytes = 1)
    (v : Value) (n : Nat) (xs : List Value) (hs : a.eval sl = v) (hown : w.ownsRowF base e 1 v n xs) (s : ByteArray) (hx : a.eval x = .string s) (h63 : n + s.size ≤ maxLen) (hbytes : n + s.size ≤ 140737488355328) (hbase : base ≤ w.heap.size)
    (h : ∀ v' w', w'.ownsRowF base e 1 v' (n + s.size) (xs ++ strCells s) → w.grownBy w' v.ownBlock → (∀ g, v'.ownBlock = some g → v.ownBlock = some g ∨ w.heap.size ≤ g) → wpList P ops K0 rest (a.put o.dst v') w') : wpList P ops K0 (o :: rest) a w := by
  refine wpList_plain hgd fun K hK => ?_
  obtain ⟨v', w', hr, h2, h3, h4⟩ := app_str_at (P := P) w base t u o.type e i ht hu hi hz hsize hby v n xs hown s h63 hbytes hbase
  unfold Oper.wp execOp
  simp only [ho, resolve, invoke, builtin, Sem.run_bind, Sem.run_pure, Result.andThen_ok, List.map_toArray, List.map_cons, List.map_nil, hs, hx, hr]
  exact hK _ _ (h v' w' h2 h3 h4)
theorem wpList_app_own {ops : Array Oper} {rest : List Oper} {o : Oper} {a : Act} {K0 : Exit → Act → World → Prop} (hgd : o.guard = none) (s x : Operand) (t : TypeId) (ho : o.op = .call { callee := .builtin .append, args := #[s, x], argTypes := #[t, t] })
    (base : Nat) (e : TypeId) (i : TypeInfo) (z : Value) (size bytes : Nat) (ht : P.underlying t = some (.slice e)) (hi : P.info? e = some i) (hz : i.zero = some z) (hsize : i.size = size) (hby : i.bytes = bytes) (hzs : z.cells.size = size) (hsz : 0 < size)
    (v : Value) (n : Nat) (xs : List Value) (hs : a.eval s = v) (hown : w.ownsRowF base e size v n xs) (ad : Addr) (m c : Nat) (news : List Value) (hx : a.eval x = .slice (some ad) m c) (hl : news.length = m * size)
    (hnews : ∀ j u, news[j]? = some u → w.cell? (ad.add j) = some u) (h1 : ∀ u ∈ news, u.oneCell' = true) (h63 : n + m ≤ maxLen) (hbytes : (n + m) * bytes ≤ 140737488355328) (hbase : base ≤ w.heap.size)
    (h : ∀ v' w', w'.ownsRowF base e size v' (n + m) (xs ++ news) → w.grownBy w' v.ownBlock → (∀ g, v'.ownBlock = some g → v.ownBlock = some g ∨ w.heap.size ≤ g) → wpList P ops K0 rest (a.put o.dst v') w') : wpList P ops K0 (o :: rest) a w := by
  refine wpList_plain hgd fun K hK => ?_
  obtain ⟨v', w', hr, h2, h3, h4⟩ := app_own_at (P := P) w base t o.type e i z size bytes ht hi hz hsize hby hzs hsz v n xs hown ad m c news hl hnews h1 h63 hbytes hbase
  unfold Oper.wp execOp
  simp only [ho, resolve, invoke, builtin, Sem.run_bind, Sem.run_pure, Result.andThen_ok, List.map_toArray, List.map_cons, List.map_nil, hs, hx, hr]
  exact hK _ _ (h v' w' h2 h3 h4)
end

/-- Below block number B, and in the blocks of Q, the world w' is as w was. -/
structure Keeps (B : Nat) (Q : Nat → Prop) (w w' : World) : Prop where
  low : Below B w w'
  kept : ∀ q, Q q → q < w.heap.size → w'.heap[q]? = w.heap[q]?
theorem Keeps.refl (B : Nat) (Q : Nat → Prop) (w : World) : Keeps B Q w w := ⟨Below.refl B w, fun _ _ _ => rfl⟩
theorem Keeps.size {B : Nat} {Q : Nat → Prop} {a b : World} (h : Keeps B Q a b) : a.heap.size ≤ b.heap.size := h.low.size
theorem Keeps.trans {B : Nat} {Q : Nat → Prop} {a b c : World} (h : Keeps B Q a b) (k : Keeps B Q b c) : Keeps B Q a c :=
  ⟨h.low.trans k.low, fun q hq hl => (k.kept q hq (Nat.lt_of_lt_of_le hl h.size)).trans (h.kept q hq hl)⟩
theorem Keeps.new {B : Nat} {Q : Nat → Prop} {a b : World} (h : Below a.heap.size a b) (hB : B ≤ a.heap.size) : Keeps B Q a b := ⟨h.mono hB, fun q _ hl => h.block q hl⟩
theorem Keeps.drew {B : Nat} {Q : Nat → Prop} {a b : World} (h : Keeps B Q a b) : Keeps B Q a b.drew := ⟨h.low.drew, h.kept⟩
theorem Keeps.alloc {B : Nat} {Q : Nat → Prop} {a w : World} (h : Keeps B Q a w) (hB : B ≤ w.heap.size) (o : Obj) : Keeps B Q a (w.alloc o) :=
  ⟨h.low.alloc hB o, fun q hq hl => (Below.heap_alloc w o q (Nat.lt_of_lt_of_le hl h.size)).trans (h.kept q hq hl)⟩
theorem Keeps.setCell {B : Nat} {Q : Nat → Prop} {a w : World} (h : Keeps B Q a w) {p : Addr} (hp : B ≤ p.block ∧ ¬ Q p.block) (u : Value) : Keeps B Q a (w.setCell p u) :=
  ⟨h.low.setCell hp.1 u, fun q hq hl => (Below.heap_setCell w p u q (fun e => hp.2 (e ▸ hq))).trans (h.kept q hq hl)⟩
theorem Keeps.grown {B : Nat} {Q : Nat → Prop} {a w w' : World} {row : Option Nat} (h : Keeps B Q a w) (hg : w.grownBy w' row) (hB : B ≤ w.heap.size) (hr : ∀ k, row = some k → B ≤ k ∧ ¬ Q k) : Keeps B Q a w' :=
  ⟨h.low.grown hg hB fun k hk => (hr k hk).1, fun q hq hl => (hg.block q (Nat.lt_of_lt_of_le hl h.size) (fun e => (hr q e.symm).2 hq)).trans (h.kept q hq hl)⟩
theorem Keeps.cell {B : Nat} {Q : Nat → Prop} {w w' : World} (h : Keeps B Q w w') {p : Addr} (hp : p.block < B) : w'.cell? p = w.cell? p := h.low.cell hp
theorem Keeps.cellQ {B : Nat} {Q : Nat → Prop} {w w' : World} (h : Keeps B Q w w') {p : Addr} (hp : Q p.block) (hl : p.block < w.heap.size) : w'.cell? p = w.cell? p := World.cell?_of_block (w := w) (h.kept _ hp hl)

/-- Block b is a decoder: what it has told; what is open (o, whatever it holds), how many bytes that lacks, and what the next one may be. -/
structure DecV (B : Nat) (Q : Nat → Prop) (b : Nat) (p v o : Value) (bs : List UInt8) (k lo hi : Int) (w : World) : Prop where
  base : B ≤ b ∧ ¬ Q b
  blk : w.heap[b]? = some (.cells #[p, v, o, .int .i64 k, .int .u8 lo, .int .u8 hi] 42 (0, 0))
  ptr : p = .pointer none ∨ p = .pointer (some ⟨b, 0, none⟩)
  ownV : w.ownsRowF B 5 1 v bs.length (bytesV bs)
  qn : ∀ q, Q q → q < w.heap.size
  qv : ∀ g, v.ownBlock = some g → ¬ Q g

section
variable {B b : Nat} {Q : Nat → Prop} {p v o : Value} {bs : List UInt8} {k lo hi : Int} {w : World}
theorem DecV.lt (h : DecV B Q b p v o bs k lo hi w) : b < w.heap.size := by
  have := h.blk
  rcases Nat.lt_or_ge b w.heap.size with h' | h'
  · exact h'
  · simp [Array.getElem?_eq_none h'] at this
theorem DecV.cell (h : DecV B Q b p v o bs k lo hi w) (j : Nat) : w.cell? ⟨b, j, none⟩ = #[p, v, o, .int .i64 k, .int .u8 lo, .int .u8 hi][j]? := Lib.cell_of_heap h.blk j
theorem DecV.frozen (h : DecV B Q b p v o bs k lo hi w) (j : Nat) : w.frozen? ⟨b, j, none⟩ = false := Lib.frozen_of_heap h.blk j
theorem DecV.neV (h : DecV B Q b p v o bs k lo hi w) : v.ownBlock ≠ some b := Lib.ownBlock_neF h.ownV h.blk (by decide)
theorem own_set {w : World} {B b n : Nat} {v : Value} {xs : List Value} (h : w.ownsRow B 5 1 v n xs) (hne : v.ownBlock ≠ some b) (j : Nat) (u : Value) : (w.setCell ⟨b, j, none⟩ u).ownsRow B 5 1 v n xs :=
  World.ownsRow.kept (row := some b) h ⟨rfl, rfl, rfl, by simp [World.setCell], fun k _ hk => Below.heap_setCell _ _ _ _ (fun e => hk (by simp [e]))⟩ (Or.inr hne)
theorem own_setF {w : World} {B b n : Nat} {v : Value} {xs : List Value} (h : w.ownsRowF B 5 1 v n xs) (hne : v.ownBlock ≠ some b) (j : Nat) (u : Value) : (w.setCell ⟨b, j, none⟩ u).ownsRowF B 5 1 v n xs :=
  World.ownsRowF.kept (row := some b) h ⟨rfl, rfl, rfl, by simp [World.setCell], fun k _ hk => Below.heap_setCell _ _ _ _ (fun e => hk (by simp [e]))⟩ (Or.inr hne)
theorem own_allocF {w : World} {B n : Nat} {v : Value} {xs : List Value} (h : w.ownsRowF B 5 1 v n xs) (o : Obj) : (w.alloc o).ownsRowF B 5 1 v n xs := h.kept (World.grownBy_alloc w o none) (by cases v.ownBlock <;> simp)
theorem own_belowF {w w1 : World} {B n : Nat} {v : Value} {xs : List Value} (h : w.ownsRowF B 5 1 v n xs) (hb : Below w.heap.size w w1) : w1.ownsRowF B 5 1 v n xs := h.kept (grown_of_below hb none) (by cases v.ownBlock <;> simp)
theorem set_blk {w : World} {b : Nat} {cs : Array Value} (hb : w.heap[b]? = some (.cells cs 42 (0, 0))) (j : Nat) (u : Value) : (w.setCell ⟨b, j, none⟩ u).heap[b]? = some (.cells (cs.setIfInBounds j u) 42 (0, 0)) := by
  simp only [World.setCell, Array.getElem?_modify, hb]
  rfl
/-- A store into the decoder's block. -/
theorem DecV.store (h : DecV B Q b p v o bs k lo hi w) {p' v' o' : Value} {bs' : List UInt8} {k' lo' hi' : Int} (j : Nat) (u : Value)
    (hc : (#[p, v, o, .int .i64 k, .int .u8 lo, .int .u8 hi] : Array Value).setIfInBounds j u = #[p', v', o', .int .i64 k', .int .u8 lo', .int .u8 hi'])
    (hp : p' = .pointer none ∨ p' = .pointer (some ⟨b, 0, none⟩)) (hv : w.ownsRowF B 5 1 v' bs'.length (bytesV bs') ∧ ∀ g, v'.ownBlock = some g → ¬ Q g) :
    DecV B Q b p' v' o' bs' k' lo' hi' (w.setCell ⟨b, j, none⟩ u) := by
  have nv : v'.ownBlock ≠ some b := Lib.ownBlock_neF hv.1 h.blk (by decide)
  refine ⟨h.base, ?_, hp, own_setF hv.1 nv j u, fun q hq => by simpa [World.setCell] using h.qn q hq, hv.2⟩
  rw [set_blk h.blk, hc]
theorem DecV.below {w' : World} (h : DecV B Q b p v o bs k lo hi w) (hb : Below w.heap.size w w') : DecV B Q b p v o bs k lo hi w' :=
  ⟨h.base, (hb.block b h.lt).trans h.blk, h.ptr, own_belowF h.ownV hb, fun q hq => Nat.lt_of_lt_of_le (h.qn q hq) hb.size, h.qv⟩
theorem DecV.own (h : DecV B Q b p v o bs k lo hi w) : w.ownsRowF B 5 1 v bs.length (bytesV bs) ∧ ∀ g, v.ownBlock = some g → ¬ Q g := ⟨h.ownV, h.qv⟩
end
theorem slice_of_own {w : World} {B e n : Nat} {v : Value} {xs : List Value} (h : w.ownsRowF B e 1 v n xs) : ∃ ao n' cap, v = .slice ao n' cap := by
  rcases h.2 with ⟨hv, h0⟩ | ⟨g, cap, cur, fz, hv, _⟩
  · exact ⟨_, _, _, hv⟩
  · exact ⟨_, _, _, hv⟩

set_option maxHeartbeats 400000 in
set_option maxRecDepth 100000 in
theorem dec_check {B b : Nat} {Q : Nat → Prop} {p v o : Value} {bs : List UInt8} {k lo hi : Int} {w : World} (h : DecV B Q b p v o bs k lo hi w) :
    Calls Tryd.prog 32 #[.pointer (some ⟨b, 0, none⟩)] w fun e w' => e = .returned (.tuple #[]) ∧ DecV B Q b (.pointer (some ⟨b, 0, none⟩)) v o bs k lo hi w' ∧ Keeps B Q w w' ∧ ∀ k, k ≠ b → w'.heap[k]? = w.heap[k]? := by
  obtain ⟨j, hj, hjs⟩ := Option.map_eq_some_iff.1 bld_size
  have c0 := h.cell 0
  have z0 := h.frozen 0
  have hsh : w.shape? b = some (42, 6) := by simp [World.shape?, h.blk]
  have HB0 := Aside0.mk h
  rcases h.ptr with hp | hp
  · rw [hp] at c0
    have c0' : w.cell? ⟨b, 0, none⟩ = some (.pointer none) := c0
    have HW : Aside0 (DecV B Q b (.pointer (some ⟨b, 0, none⟩)) v o bs k lo hi (w.setCell ⟨b, 0, none⟩ (.pointer (some ⟨b, 0, none⟩)))) := ⟨h.store 0 _ rfl (.inr rfl) h.own⟩
    have hBb := h.base
    clear h c0
    go_enter Tryd.func32, Tryd.ntmps32
    go_wp2_with fail
    rw [Lib.run_to_unsafe w ⟨b, 0, none⟩ Tryd.underlying36 Tryd.underlying65 hj (by rw [hjs]; decide) hsh (show 0 < 6 by omega)]
    simp only [Result.andThen]
    rw [Oper.upon_value]
    go_wp2_with fail
    rw [run_callFunc_extern Tryd.func38 (by kernel_rfl) (by kernel_rfl) (by kernel_rfl) (e := Extern.AbiNoEscape.same) (by kernel_rfl)]
    rw [Lib.run_noEscape]
    simp only [Result.andThen]
    rw [Oper.upon_value]
    go_wp2_with fail
    rw [Lib.run_from_unsafe w ⟨b, 0, none⟩ Tryd.underlying65 Tryd.underlying36 hj hsh dec_lies]
    simp only [Result.andThen]
    rw [Oper.upon_value]
    go_wp2
    go_end0
    exact ⟨rfl, HW.out, (Keeps.refl B Q w).setCell (p := ⟨b, 0, none⟩) hBb _, fun k hk => Below.heap_setCell _ _ _ _ hk⟩
  · rw [hp] at c0 HB0
    have c0' : w.cell? ⟨b, 0, none⟩ = some (.pointer (some ⟨b, 0, none⟩)) := c0
    clear h c0
    go_enter Tryd.func32, Tryd.ntmps32
    go_wp2
    rw [Lib.run_neq_ptr_same w _ Tryd.underlying36 hj]
    go_wp2
    go_end0
    exact ⟨rfl, HB0.out, Keeps.refl B Q _, fun _ _ => rfl⟩

/-- What a builder's write leaves. -/
def Told (B : Nat) (Q : Nat → Prop) (b : Nat) (o : Value) (bs : List UInt8) (k lo hi : Int) (w w' : World) : Prop := (∃ v, DecV B Q b (.pointer (some ⟨b, 0, none⟩)) v o bs k lo hi w') ∧ Keeps B Q w w'
theorem told_of {B b : Nat} {Q : Nat → Prop} {v v' o : Value} {bs bs' : List UInt8} {k lo hi : Int} {w w1 w2 : World} (h1 : DecV B Q b (.pointer (some ⟨b, 0, none⟩)) v o bs k lo hi w1) (hb : Keeps B Q w w1) (hBw : B ≤ w.heap.size) (hown' : w2.ownsRowF B 5 1 v' bs'.length (bytesV bs')) (hgrow : w1.grownBy w2 v.ownBlock) (hat : ∀ g, v'.ownBlock = some g → v.ownBlock = some g ∨ w1.heap.size ≤ g) :
    Told B Q b o bs' k lo hi w (w2.setCell ⟨b, 1, none⟩ v') := by
  have hb2 : w2.heap[b]? = some (.cells #[.pointer (some ⟨b, 0, none⟩), v, o, .int .i64 k, .int .u8 lo, .int .u8 hi] 42 (0, 0)) := by
    rw [hgrow.block b h1.lt (fun e => h1.neV e.symm)]
    exact h1.blk
  have nv : v'.ownBlock ≠ some b := Lib.ownBlock_neF hown' hb2 (by decide)
  refine ⟨⟨v', h1.base, ?_, .inr rfl, own_setF hown' nv 1 v', fun q hq => by have := h1.qn q hq; have := hgrow.size; simp only [World.setCell, Array.size_modify]; omega, fun g hg hq => (hat g hg).elim (fun e => h1.qv g e hq) (fun e => by have := h1.qn g hq; omega)⟩, ?_⟩
  · rw [set_blk hb2]; rfl
  · exact (hb.grown hgrow (by have := hb.size; omega) (fun k hk => ⟨(h1.ownV.lt k hk).1, h1.qv k hk⟩)).setCell (p := ⟨b, 1, none⟩) h1.base _
theorem told_cell {B b : Nat} {Q : Nat → Prop} {v o : Value} {bs : List UInt8} {k lo hi : Int} {w1 w2 : World} (h1 : DecV B Q b (.pointer (some ⟨b, 0, none⟩)) v o bs k lo hi w1) (hgrow : w1.grownBy w2 v.ownBlock) :
    w2.cell? ⟨b, 1, none⟩ = some v ∧ w2.frozen? ⟨b, 1, none⟩ = false := by
  have hb2 : w2.heap[b]? = some (.cells #[.pointer (some ⟨b, 0, none⟩), v, o, .int .i64 k, .int .u8 lo, .int .u8 hi] 42 (0, 0)) := by
    rw [hgrow.block b h1.lt (fun e => h1.neV e.symm)]
    exact h1.blk
  exact ⟨by rw [Lib.cell_of_heap hb2]; rfl, Lib.frozen_of_heap hb2 1⟩

set_option maxHeartbeats 800000 in
set_option maxRecDepth 100000 in
theorem dec_string {B b : Nat} {Q : Nat → Prop} {p v o : Value} {bs : List UInt8} {k lo hi : Int} {w : World} (s : ByteArray) (h : DecV B Q b p v o bs k lo hi w) (hlen : bs.length + s.size ≤ 140737488355328) (hBw : B ≤ w.heap.size) :
    Calls Tryd.prog 29 #[.pointer (some ⟨b, 0, none⟩), .string s] w fun e w' => e = .returned (.tuple #[.int .i64 s.size, .nilIface]) ∧ Told B Q b o (bs ++ s.data.toList) k lo hi w w' := by
  obtain ⟨i0, hi0, hz0, hz1, hz2⟩ := info_parts byte_info
  go_enter Tryd.func29, Tryd.ntmps29
  go_wp2_with fail
  refine (dec_check h).mono ?_
  rintro e w1 ⟨rfl, h1, hb1, hk1⟩
  have c1 : w1.cell? ⟨b, 1, none⟩ = some v := h1.cell 1
  have hown := h1.ownV
  go_wp2_with (at_builtin; refine wpList_app_str _ rfl _ _ 23 9 rfl B 5 i0 Tryd.underlying23 Tryd.underlying9 hi0 hz0 hz1 hz2 _ _ _ rfl hown s rfl ?c3 ?c4 ?c5 ?_)
  case c3 => unfold maxLen; omega
  case c4 => omega
  case c5 => have := hb1.size; omega
  intro v' w2 hown' hgrow hat
  have hs : bs.length + s.size = (bs ++ s.data.toList).length := by rw [List.length_append]; simp only [Array.length_toList]; rfl
  rw [strCells_of rfl, ← bytesV_append, hs] at hown'
  obtain ⟨d1, f1⟩ := told_cell h1 hgrow
  obtain ⟨ao, n', cap, rfl⟩ := slice_of_own hown'
  have HW := Aside0.mk (told_of h1 hb1 hBw hown' hgrow hat)
  clear hown' hgrow hat hown h1
  go_wp2
  go_ret2
  exact ⟨rfl, HW.out⟩

set_option maxHeartbeats 800000 in
set_option maxRecDepth 100000 in
theorem dec_byte {B b : Nat} {Q : Nat → Prop} {p v o : Value} {bs : List UInt8} {k lo hi : Int} {w : World} (c : UInt8) (h : DecV B Q b p v o bs k lo hi w) (hlen : bs.length + 1 ≤ 140737488355328) (hBw : B ≤ w.heap.size) :
    Calls Tryd.prog 31 #[.pointer (some ⟨b, 0, none⟩), .int .u8 c.toNat] w fun e w' => e = .returned .nilIface ∧ Told B Q b o (bs ++ [c]) k lo hi w w' := by
  obtain ⟨i0, hi0, hz0, hz1, hz2⟩ := info_parts byte_info
  go_enter Tryd.func31, Tryd.ntmps31
  go_wp2_with fail
  refine (dec_check h).mono ?_
  rintro e w1 ⟨rfl, h1, hb1, hk1⟩
  have c1 : w1.cell? ⟨b, 1, none⟩ = some v := h1.cell 1
  have hown := h1.ownV
  have hbl := h1.lt
  go_wp2_with (at_builtin; refine wpList_app_own _ rfl _ _ 23 rfl B 5 i0 (.int .u8 0) 1 1 Tryd.underlying23 hi0 hz0 hz1 hz2 rfl (by decide) _ _ _ rfl (own_allocF hown _) ⟨w1.heap.size, 0, none⟩ 1 1 [.int .u8 c.toNat] rfl rfl ?c1 ?c2 ?c3 ?c4 ?c5 ?_)
  case c1 =>
    intro j u hj
    match j, hj with
    | 0, hj => simp at hj; subst hj; simp [Addr.add]
  case c2 => intro u hu; simp at hu; subst hu; rfl
  case c3 => unfold maxLen; omega
  case c4 => omega
  case c5 => have := hb1.size; simp; omega
  intro v' w2 hown' hgrow hat
  rw [show bytesV bs ++ [.int .u8 c.toNat] = bytesV (bs ++ [c]) by rw [bytesV_append]; rfl, show bs.length + 1 = (bs ++ [c]).length by simp] at hown'
  have h2 := h1.below (below_alloc (Below.refl w1.heap.size w1) (.cells #[.int .u8 c.toNat] 5))
  have hb2 : Keeps B Q w (w1.alloc (.cells #[.int .u8 c.toNat] 5)) := hb1.alloc (by have := hb1.size; omega) _
  obtain ⟨d1, f1⟩ := told_cell h2 hgrow
  obtain ⟨ao, n', cap, rfl⟩ := slice_of_own hown'
  have HW := Aside0.mk (told_of h2 hb2 hBw hown' hgrow (fun g hg => (hat g hg).imp id fun h => by simpa using h))
  clear hown' hgrow hat hown h1 h2
  go_wp2
  go_ret
  exact ⟨rfl, HW.out⟩

set_option maxHeartbeats 800000 in
set_option maxRecDepth 100000 in
theorem dec_write {B b g cap : Nat} {Q : Nat → Prop} {p v o : Value} {bs op : List UInt8} {k lo hi : Int} {w : World} (h : DecV B Q b p v o bs k lo hi w) (hop : w.ownsRow B 5 1 (.slice (some ⟨g, 0, none⟩) op.length cap) op.length (bytesV op)) (hgb : g ≠ b) (hlen : bs.length + op.length ≤ 140737488355328) (hBw : B ≤ w.heap.size) :
    Calls Tryd.prog 25 #[.pointer (some ⟨b, 0, none⟩), .slice (some ⟨g, 0, none⟩) op.length cap] w fun e w' => e = .returned (.tuple #[.int .i64 op.length, .nilIface]) ∧ Told B Q b o (bs ++ op) k lo hi w w' := by
  obtain ⟨i0, hi0, hz0, hz1, hz2⟩ := info_parts byte_info
  obtain ⟨n, hn⟩ : ∃ n, n = op.length := ⟨_, rfl⟩
  rw [← hn] at hop hlen ⊢
  have HN := Aside0.mk hn
  clear hn
  go_enter Tryd.func25, Tryd.ntmps25
  go_wp2_with fail
  refine (dec_check h).mono ?_
  rintro e w1 ⟨rfl, h1, hb1, hk1⟩
  have c1 : w1.cell? ⟨b, 1, none⟩ = some v := h1.cell 1
  have hown := h1.ownV
  have hop1 : w1.ownsRow B 5 1 (.slice (some ⟨g, 0, none⟩) n cap) n (bytesV op) := by
    obtain ⟨q1, q2⟩ := hop
    refine ⟨q1, ?_⟩
    rcases q2 with ⟨e, _⟩ | ⟨g', cap', cur, e, e2, e3, e4⟩
    · cases e
    · refine .inr ⟨g', cap', cur, e, e2, ?_, e4⟩
      have : g' = g := by injection e with e _ _; injection e with e; exact (congrArg Addr.block e).symm
      rw [hk1 g' (by rw [this]; exact hgb)]
      exact e3
  go_wp2_with (at_builtin; refine wpList_app_own _ rfl _ _ 23 rfl B 5 i0 (.int .u8 0) 1 1 Tryd.underlying23 hi0 hz0 hz1 hz2 rfl (by decide) _ _ _ rfl hown ⟨g, 0, none⟩ n cap (bytesV op) rfl ?c0 ?c1 ?c2 ?c3 ?c4 ?c5 ?_)
  case c0 => rw [bytesV_length, HN.out, Nat.mul_one]
  case c1 =>
    intro j u hj
    exact hop1.cells (g := g) rfl j u hj
  case c2 => intro u hu; simp only [bytesV, List.mem_map] at hu; obtain ⟨c, _, rfl⟩ := hu; rfl
  case c3 => unfold maxLen; omega
  case c4 => omega
  case c5 => have := hb1.size; omega
  intro v' w2 hown' hgrow hat
  rw [← bytesV_append, HN.out, ← List.length_append] at hown'
  obtain ⟨d1, f1⟩ := told_cell h1 hgrow
  obtain ⟨ao, n', cap', rfl⟩ := slice_of_own hown'
  have HW := Aside0.mk (told_of h1 hb1 hBw hown' hgrow hat)
  clear hown' hgrow hat hown h1 hop1
  go_wp2
  go_ret2
  exact ⟨rfl, HW.out⟩
end Go.Proofs.YtoejbjmdcokojaaDoor.Hand
