-- Written by wip/tools/gprint.py of this session, over the kit's print. Lean checks it.
import Derived.Test.YtijjfkjihifjpaaPx0
namespace Go.Proofs.Ytijjfkjihifjpaa.P
open Go.Proofs.Ytijjfkjihifjpaa.Hand
open Go.RowKit Go.Proofs.YtijjfkjihifjpaaW.PrintWords Go.Proofs.YtijjfkjihifjpaaW.PrintLast Go.Proofs.YtijjfkjihifjpaaW.PrintMore
attribute [local go_sem] max2_int min2_int max_two min_two max_three min_three max_four min_four   -- for this text's walks alone
attribute [local go_sem] Go.IntKind.wrap_u32
set_option linter.unusedVariables false
set_option linter.unusedSimpArgs false

/-! ### charref_all: function 21 (by hand) -/
def namedV : List Value := named.flatMap fun x => [.string x.1, .int .i32 x.2.1, .bool x.2.2]
theorem named_idx (w : World) (k : Nat) (hk : k < 22) : (Instr.index 50 (.agg namedV.toArray) (.int .i64 (k : Int))).run Try.prog w = .ok (.agg #[.string (named.getD k (⟨#[]⟩, 0, false)).1, .int .i32 (named.getD k (⟨#[]⟩, 0, false)).2.1, .bool (named.getD k (⟨#[]⟩, 0, false)).2.2]) w := by
  simp [Instr.index, go_sem]
  rw [if_pos hk]
  have h : k = 0 ∨ k = 1 ∨ k = 2 ∨ k = 3 ∨ k = 4 ∨ k = 5 ∨ k = 6 ∨ k = 7 ∨ k = 8 ∨ k = 9 ∨ k = 10 ∨ k = 11 ∨ k = 12 ∨ k = 13 ∨ k = 14 ∨ k = 15 ∨ k = 16 ∨ k = 17 ∨ k = 18 ∨ k = 19 ∨ k = 20 ∨ k = 21 := by omega
  rcases h with h | h | h | h | h | h | h | h | h | h | h | h | h | h | h | h | h | h | h | h | h | h <;> (subst h; rfl)
def zeroV : List Value := (List.replicate 22 [Value.string ⟨#[]⟩, .int .i32 0, .bool false]).flatten
set_option maxHeartbeats 1000000 in
set_option maxRecDepth 100000 in
theorem charref_all.calls (w : World) : Calls Try.prog 21 #[] w fun e w' => e = .returned (.agg namedV.toArray) ∧ Below w.heap.size w w' := by
  have hz : ∀ w, (zeroValue 50).run Try.prog w = .ok (.agg zeroV.toArray) w := fun w => by kernel_rfl
  go_enter Try.func21, Try.ntmps21
  go_wp2_with (first
    | ((with_reducible refine gate_dst (N := 23) rfl ?_); refine wpList_build_to rfl 50 _ rfl namedV.toArray (by kernel_rfl) ?_)
    | ((with_reducible refine gate_store (t := 50) (p := 0) (v := .tmp 23) rfl ?_); refine wpList_store_row rfl 50 (.tmp 0) (.tmp 23) rfl w.heap.size namedV.toArray rfl rfl 50 _ (heap_alloc_new _ _) (by kernel_rfl) (by kernel_rfl) (by kernel_rfl) ?_))
  refine bodyPost_ret (v := .agg namedV.toArray) (results_cell_row (p := 0) (ty := 50) rfl _ _ w.heap.size 50 _ (0, 0) (.array 22 49) rfl (setRow_heap _ _ _ _ _ _ (heap_alloc_new _ _)) (by kernel_rfl) rfl (by kernel_rfl)) rfl ⟨rfl, below_setRow_new _ _ _⟩
def charref_Take.f (a0 : ByteArray) (a1 : Int) (a2 : Bool) : Option (ByteArray × Int × Int) := if a0.size ≤ 140737488351232 then some (takeOf a0 a1 a2) else none

end Go.Proofs.Ytijjfkjihifjpaa.P
