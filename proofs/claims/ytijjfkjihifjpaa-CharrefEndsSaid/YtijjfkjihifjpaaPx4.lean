-- Written by wip/tools/gprint.py of this session, over the kit's print. Lean checks it.
import Derived.Test.YtijjfkjihifjpaaPx0
import Derived.Test.YtijjfkjihifjpaaPx3
namespace Go.Proofs.Ytijjfkjihifjpaa.P
open Go.Proofs.Ytijjfkjihifjpaa.Hand
open Go.RowKit Go.Proofs.YtijjfkjihifjpaaW.PrintWords Go.Proofs.YtijjfkjihifjpaaW.PrintLast Go.Proofs.YtijjfkjihifjpaaW.PrintMore
attribute [local go_sem] max2_int min2_int max_two min_two max_three min_three max_four min_four   -- for this text's walks alone
attribute [local go_sem] Go.IntKind.wrap_u32
set_option linter.unusedVariables false
set_option linter.unusedSimpArgs false

/-! ### charref_point: function 30 (by hand) -/
theorem utf8_ValidRune_of (n : Int) : utf8_ValidRune.f 2 n = some (decide (0 ≤ n ∧ n < 55296 ∨ 57343 < n ∧ n ≤ 1114111)) := by
  unfold utf8_ValidRune.f utf8_ValidRune.j0
  repeat' split
  all_goals (congr 1; simp_all; try omega)
def toldV : List Value := toldTab.map (Value.int .i32)
theorem told_idx (w : World) (k : Nat) (hk : k < 32) : (Instr.index 69 (.agg toldV.toArray) (.int .i32 (k : Int))).run Try.prog w = .ok (.int .i32 (toldTab.getD k 0)) w := by
  have h1 : toldV[k]? = some (.int .i32 (toldTab.getD k 0)) := by
    unfold toldV
    rw [List.getElem?_map]
    have : k < toldTab.length := by simp [toldTab]; omega
    simp [List.getElem?_eq_getElem this]
  simp [Instr.index, go_sem]
  rw [if_pos hk, h1]
  simp [go_sem]
theorem retsu_of {k' : IntKind} {a b : ByteArray} {c d : Int} (h1 : a = b) (h2 : c = d) : Ending.returned (.tuple #[.string a, .int k' c]) = .returned (.tuple #[.string b, .int k' d]) := by rw [h1, h2]
set_option maxHeartbeats 1000000 in
set_option maxRecDepth 100000 in
theorem charref_told.calls (w : World) : Calls Try.prog 36 #[] w fun e w' => e = .returned (.agg toldV.toArray) ∧ Below w.heap.size w w' := by
  have hsz : toldV.toArray.size = 32 := rfl
  go_enter Try.func36, Try.ntmps36
  go_wp2_with (first
    | ((with_reducible refine gate_dst (N := 1) rfl ?_); refine wpList_build_to rfl 69 _ rfl toldV.toArray (by kernel_rfl) ?_)
    | ((with_reducible refine gate_store (t := 69) (p := 0) (v := .tmp 1) rfl ?_); refine wpList_store_row rfl 69 (.tmp 0) (.tmp 1) rfl w.heap.size toldV.toArray rfl rfl 69 _ (heap_alloc_new _ _) (by kernel_rfl) (by kernel_rfl) (by kernel_rfl) ?_))
  refine bodyPost_ret (v := .agg toldV.toArray) (results_cell_row (p := 0) (ty := 69) rfl _ _ w.heap.size 69 _ (0, 0) (.array 32 21) rfl (setRow_heap _ _ _ _ _ _ (heap_alloc_new _ _)) (by kernel_rfl) rfl (by kernel_rfl)) rfl ⟨rfl, below_setRow_new _ _ _⟩
def charref_point.f (a0 : Int) : Option (ByteArray × Int) := if -2147483648 ≤ a0 ∧ a0 ≤ 2147483647 then some (pointOf a0) else none
set_option maxHeartbeats 1000000 in
set_option maxRecDepth 100000 in
theorem charref_point.calls (a0 : Int) (r1 : ByteArray) (r2 : Int) (w : World) (h : charref_point.f a0 = some (r1, r2)) :
    Calls Try.prog 30 #[.int .i32 a0] w fun e w' => e = .returned (.tuple #[.string r1, .int .u8 r2]) ∧ Below w.heap.size w w' := by
  have hf : -2147483648 ≤ a0 ∧ a0 ≤ 2147483647 := by
    unfold charref_point.f at h
    split at h
    · assumption
    · cases h
  have he : pointOf a0 = (r1, r2) := by
    unfold charref_point.f at h
    rw [if_pos hf] at h
    exact Option.some.inj h
  clear h
  obtain ⟨hlo, hhi⟩ := hf
  have hv := Aside0.mk (utf8_ValidRune_of a0)
  unfold pointOf at he
  by_cases hbad : a0 = 0 ∨ 1114111 < a0 ∨ ¬ (0 ≤ a0 ∧ a0 < 55296 ∨ 57343 < a0 ∧ a0 ≤ 1114111)
  · rw [if_pos hbad] at he
    injection he with e1 e2
    have E1 := Aside0.mk e1
    have E2 := Aside0.mk e2
    clear e1 e2
    by_cases h0 : a0 = 0
    · subst h0
      clear hbad
      go_enter Try.func30, Try.ntmps30
      go_wp2
      go_ret2
      exact ⟨retsu_of E1.out E2.out, Below.refl _ _⟩
    · by_cases h1 : 1114111 < a0
      · clear hbad
        have hb0 : (a0 == 0) = false := beq_eq_false_iff_ne.mpr h0
        go_enter Try.func30, Try.ntmps30
        go_wp2
        go_ret2
        exact ⟨retsu_of E1.out E2.out, Below.refl _ _⟩
      · have h2 : decide (0 ≤ a0 ∧ a0 < 55296 ∨ 57343 < a0 ∧ a0 ≤ 1114111) = false := decide_eq_false (by rcases hbad with h | h | h <;> first | exact absurd h h0 | exact absurd h h1 | exact h)
        have hv2 := hv.out
        rw [h2] at hv2
        have HV := Aside0.mk hv2
        clear hbad h2 hv2 hv
        have hb0 : (a0 == 0) = false := beq_eq_false_iff_ne.mpr h0
        go_enter Try.func30, Try.ntmps30
        go_wp2_with (go_at_call 35; (with_reducible refine (utf8_ValidRune.calls 2 a0 false _ HV.out).mono ?_); rintro e w' ⟨rfl, hdr⟩)
        go_ret2
        exact ⟨retsu_of E1.out E2.out, hdr.below⟩
  · rw [if_neg hbad] at he
    have h0 : ¬ a0 = 0 := fun h => hbad (.inl h)
    have h1 : a0 ≤ 1114111 := by omega
    have h2 : decide (0 ≤ a0 ∧ a0 < 55296 ∨ 57343 < a0 ∧ a0 ≤ 1114111) = true := decide_eq_true (by omega)
    have hv2 := hv.out
    rw [h2] at hv2
    have HV := Aside0.mk hv2
    have hpos : 0 ≤ a0 := by omega
    clear hbad h2 hv2 hv
    have hb0 : (a0 == 0) = false := beq_eq_false_iff_ne.mpr h0
    by_cases hr : 128 ≤ a0 ∧ a0 ≤ 159
    · rw [if_pos hr] at he
      obtain ⟨hr1, hr2⟩ := hr
      have hidx : ∀ w, (Instr.index 69 (.agg toldV.toArray) (.int .i32 (a0 - 128))).run Try.prog w = .ok (.int .i32 (toldTab.getD (a0 - 128).toNat 0)) w := by
        intro w
        have h := told_idx w (a0 - 128).toNat (by omega)
        rw [show (((a0 - 128).toNat : Nat) : Int) = a0 - 128 by omega] at h
        exact h
      injection he with e1 e2
      have E1 := Aside0.mk e1
      have E2 := Aside0.mk e2
      clear e1 e2 h0
      go_enter Try.func30, Try.ntmps30
      go_wp2_with (first | (go_at_call 35; (with_reducible refine (utf8_ValidRune.calls 2 _ true _ HV.out).mono ?_); rintro e w' ⟨rfl, hdr⟩) | (go_at_call 36; (with_reducible refine (charref_told.calls _).mono ?_); rintro e w2 ⟨rfl, hdr2⟩))
      go_ret2
      exact ⟨retsu_of E1.out E2.out, below_step hdr.below hdr2⟩
    · rw [if_neg hr] at he
      injection he with e1 e2
      have E1 := Aside0.mk e1
      have E2 := Aside0.mk e2
      clear e1 e2
      by_cases hr1 : 128 ≤ a0
      · have hr2 : ¬ a0 ≤ 159 := fun h => hr ⟨hr1, h⟩
        clear hr
        go_enter Try.func30, Try.ntmps30
        go_wp2_with (go_at_call 35; (with_reducible refine (utf8_ValidRune.calls 2 a0 true _ HV.out).mono ?_); rintro e w' ⟨rfl, hdr⟩)
        go_ret2
        exact ⟨retsu_of E1.out E2.out, hdr.below⟩
      · clear hr
        go_enter Try.func30, Try.ntmps30
        go_wp2_with (go_at_call 35; (with_reducible refine (utf8_ValidRune.calls 2 a0 true _ HV.out).mono ?_); rintro e w' ⟨rfl, hdr⟩)
        go_ret2
        exact ⟨retsu_of E1.out E2.out, hdr.below⟩

end Go.Proofs.Ytijjfkjihifjpaa.P
