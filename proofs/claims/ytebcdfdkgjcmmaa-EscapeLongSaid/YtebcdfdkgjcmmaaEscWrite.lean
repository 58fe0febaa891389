/- By hand: the writer that appends (strings.appendSliceWriter), and the interface that leads to it. -/
import Derived.Test.YtebcdfdkgjcmmaaEscSync
import Derived.Lib.Builder
import Derived.Lib.AppendStr
import Derived.Laws.IdiomStrings
import Derived.Laws.MakeOwn
import Derived.Laws.OwnMore
import Derived.Laws.Closers25
namespace Go.Proofs.Ytebcdfdkgjcmmaa.Hand
set_option linter.unusedVariables false
set_option linter.unusedSimpArgs false
open Go Go.RowKit Go.Proofs.YtebcdfdkgjcmmaaW.PrintWords

theorem byte_info : (Try.prog.info? 5).map (fun i => (i.zero, i.size, i.bytes)) = some (some (.int .u8 0), 1, 1) := by kernel_rfl

/-- Block b holds the writer, which has written these cells; all of it is its own, from B on. -/
def WriterAt (B b : Nat) (bs : List Value) (w : World) : Prop :=
  B ≤ b ∧ ∃ v, w.heap[b]? = some (.cells #[v] 132 (0, 0)) ∧ w.ownsRow B 5 1 v bs.length bs ∧ v.ownBlock ≠ some b

theorem slice_of_own {w : World} {B e n : Nat} {v : Value} {xs : List Value} (h : w.ownsRow B e 1 v n xs) : ∃ ao n' cap, v = .slice ao n' cap := by
  rcases h.2 with ⟨hv, _⟩ | ⟨g, cap, cur, hv, _⟩
  · exact ⟨_, _, _, hv⟩
  · exact ⟨_, _, _, hv⟩

set_option maxHeartbeats 2000000 in
set_option maxRecDepth 100000 in
theorem aw_string (B b : Nat) (bs : List Value) (s : ByteArray) (w : World) (h : WriterAt B b bs w) (hlen : bs.length + s.size ≤ 140737488355328) (hBw : B ≤ w.heap.size) :
    Calls Try.prog 107 #[.pointer (some ⟨b, 0, none⟩), .string s] w fun e w' => e = .returned (.tuple #[.int .i64 s.size, .nilIface]) ∧ (WriterAt B b (bs ++ Lib.strCells s) w' ∧ Below B w w') := by
  obtain ⟨i0, hi, hz0, hz1, hz2⟩ := info_parts byte_info
  obtain ⟨hB, v, hbk, hown, hne⟩ := h
  have c1 : w.cell? ⟨b, 0, none⟩ = some v := by rw [Lib.cell_of_heap hbk]; rfl
  go_enter Try.func107, Try.ntmps107
  go_wp2_with (at_builtin; refine Lib.wpList_append_own_string _ rfl _ _ 132 9 rfl B 5 i0 Try.underlying132 Try.underlying9 hi hz0 hz1 hz2 _ _ _ rfl hown s rfl ?c3 ?c4 ?c5 ?_)
  case c3 => unfold maxLen; omega
  case c4 => omega
  case c5 => omega
  intro v' w2 hown' hgrow _
  have hlt : b < w.heap.size := by
    rcases Nat.lt_or_ge b w.heap.size with h' | h'
    · exact h'
    · simp [Array.getElem?_eq_none h'] at hbk
  have hb2 : w2.heap[b]? = some (.cells #[v] 132 (0, 0)) := by
    rw [hgrow.block b hlt (fun e => hne e.symm)]
    exact hbk
  have d1 : w2.cell? ⟨b, 0, none⟩ = some v := by rw [Lib.cell_of_heap hb2]; rfl
  have f1 : w2.frozen? ⟨b, 0, none⟩ = false := Lib.frozen_of_heap hb2 0
  obtain ⟨ao, n', cap, rfl⟩ := slice_of_own hown'
  go_wp2
  go_ret2
  refine ⟨rfl, ⟨hB, .slice ao n' cap, ?_, ?_, ?_⟩, ?_⟩
  · simp [World.setCell, Array.getElem?_modify, hb2]
  · have hs : (bs ++ Lib.strCells s).length = bs.length + s.size := by simp [Lib.strCells_length]
    rw [hs]
    exact World.ownsRow.kept (row := some b) hown' ⟨rfl, rfl, rfl, by simp [World.setCell], fun k _ hk => Below.heap_setCell _ _ _ _ (fun e => hk (by simp [e]))⟩ (Or.inr (Lib.ownBlock_ne hown' hb2 (by decide)))
  · exact Lib.ownBlock_ne hown' hb2 (by decide)
  · exact ((Below.refl B w).grown hgrow (by omega) (fun k hk => (hown.lt k hk).1)).setCell (p := ⟨b, 0, none⟩) hB _

theorem assert_sw (p : Option Addr) (w : World) : (Instr.typeAssert (.iface 133 (.pointer p)) 135 137 true).run Try.prog w = .ok (.tuple #[.iface 133 (.pointer p), .bool true]) w := by kernel_rfl

set_option maxHeartbeats 2000000 in
set_option maxRecDepth 100000 in
theorem get_sw (p : Option Addr) (w : World) :
    Calls Try.prog 86 #[.iface 133 (.pointer p)] w fun e w' => e = .returned (.iface 133 (.pointer p)) ∧ w' = w := by
  have ha := assert_sw p
  have hnot : ∀ (x : Bool) (w : World), (Op.unary .not (.bool x)).run Try.prog w = .ok (.bool (!x)) w := fun _ _ => rfl
  go_enter Try.func86, Try.ntmps86
  go_wp2
  go_ret
  exact ⟨rfl, rfl⟩
end Go.Proofs.Ytebcdfdkgjcmmaa.Hand
