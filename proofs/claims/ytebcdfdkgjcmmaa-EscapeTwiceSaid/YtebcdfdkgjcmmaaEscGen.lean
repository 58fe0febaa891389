/- By hand: the replacer's answer to a text. -/
import Derived.Test.YtebcdfdkgjcmmaaEscRun
namespace Go.Proofs.Ytebcdfdkgjcmmaa.Hand
set_option linter.unusedVariables false
set_option linter.unusedSimpArgs false
open Go Go.RowKit Go.Proofs.YtebcdfdkgjcmmaaW.PrintWords

set_option maxHeartbeats 400000 in
set_option maxRecDepth 100000 in
theorem gen_replace (q : Bool) (C D G : Nat) (s : ByteArray) (w : World) (hs : s.size ≤ 1048576) (hR : Ready q C D w G) (hD : D ≤ w.heap.size) :
    Calls Try.prog 84 #[.pointer (some ⟨G, 0, none⟩), .string s] w fun e w' => e = .returned (.string ⟨(escL q s.data.toList).toArray⟩) ∧ Below D w w' := by
  obtain ⟨i0, hi, hz0, hz1, hz2⟩ := info_parts byte_info
  have HR := Aside0.mk hR
  clear hR
  go_enter Try.func84, Try.ntmps84
  go_wp2_with (at_make; refine wpList_make_own _ rfl _ _ 132 rfl D 5 i0 (.int .u8 0) 1 Try.underlying132 hi hz0 hz1 _ _ _ s.size rfl rfl rfl ?b2 ?b3 hD ?_)
  case b2 => rw [hz2]; omega
  case b3 => unfold maxLen; omega
  intro w1 hown hgrow
  have hB1 : Below D w w1 := (Below.refl D w).grown hgrow hD (fun k hk => by simp at hk)
  have hW : WriterAt D w1.heap.size (bytesV []) (w1.alloc (.cells #[.slice (some ⟨w.heap.size, 0, none⟩) 0 s.size] 132)) := by
    refine ⟨Nat.le_trans hD hgrow.size, _, heap_alloc_new _ _, hown.alloc _, ?_⟩
    have := (hown.lt w.heap.size rfl).2
    simp [Value.ownBlock]
    omega
  have hR2 : Aside0 (Ready q C D (w1.alloc (.cells #[.slice (some ⟨w.heap.size, 0, none⟩) 0 s.size] 132)) G) := ⟨HR.out.below (hB1.alloc (Nat.le_trans hD hgrow.size) _)⟩
  have HB := Aside0.mk (hB1.alloc (Nat.le_trans hD hgrow.size) (.cells #[.slice (some ⟨w.heap.size, 0, none⟩) 0 s.size] 132))
  have HW := Aside0.mk hW
  clear hW
  have hD2 : D ≤ (w1.alloc (.cells #[.slice (some ⟨w.heap.size, 0, none⟩) 0 s.size] 132)).heap.size := by simp; have := hgrow.size; omega
  go_wp2_with fail
  refine (gen_write q C D G w1.heap.size s _ hs hR2.out hD2 HW.out).mono ?_
  rintro e w2 ⟨⟨rv, rfl⟩, hw2, hb2⟩
  obtain ⟨hge, v, hbk, hown2, hne⟩ := hw2
  have c1 : w2.cell? ⟨w1.heap.size, 0, none⟩ = some v := by rw [Lib.cell_of_heap hbk]; rfl
  have HB2 := Aside0.mk (HB.out.trans hb2)
  clear hb2
  have hconv : ∃ a c, v = .slice a (escL q s.data.toList).length c ∧ (convert 132 9 v).run Try.prog w2 = .ok (.string ⟨(escL q s.data.toList).toArray⟩) w2 := by
    rcases hown2.2 with ⟨hv, h0⟩ | ⟨g, cap, cur, hv, hg1, hg2, hg3, hg4, hg5, hg6⟩
    · rw [bytesV_length] at h0
      refine ⟨none, 0, by rw [hv, h0], ?_⟩
      have : escL q s.data.toList = [] := List.eq_nil_of_length_eq_zero h0
      rw [this, hv]
      exact run_convert_bytes_nil w2 132 5 Try.underlying132 Try.underlying5 0 0 9 Try.underlying9
    · rw [bytesV_length] at hv
      refine ⟨_, _, hv, ?_⟩
      rw [hv]
      refine run_convert_bytes_back w2 132 9 5 _ cap _ Try.underlying132 Try.underlying5 Try.underlying9 (fun j hj => ?_)
      refine hown2.cells (g := g) (by rw [hv]; rfl) j _ ?_
      simp [bytesV, hj]
  obtain ⟨a, c, rfl, hconv⟩ := hconv
  clear hown2 hne hbk hown hgrow hB1 hR2 HB HW hD2 hi hz0 hz1 hz2
  go_wp2
  go_ret
  exact ⟨rfl, HB2.out⟩
end Go.Proofs.Ytebcdfdkgjcmmaa.Hand
