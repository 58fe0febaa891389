/- By hand: what the decoder has told, as a text. -/
import Derived.Test.YtoejbjmdcokojaaDoorInFeed
import Derived.Lib.UnsafeStr
namespace Go.Proofs.YtoejbjmdcokojaaDoor.Hand
set_option linter.unusedVariables false
set_option linter.unusedSimpArgs false
open Go Go.RowKit Go.Proofs.YtoejbjmdcokojaaDoorW.PrintWords

theorem freeze_other (w : World) (p : Addr) (n k : Nat) (h : k ≠ p.block) : (w.freeze p n).heap[k]? = w.heap[k]? := by
  unfold World.freeze
  split
  · rfl
  · simp [Array.getElem?_modify, Ne.symm h]
theorem us_none (W : World) (q : Option Addr) : (Builtin.unsafeString_ #[53, 3] 9 #[.pointer q, .int .i64 0]).run Tryd.prog W = .ok (.string .empty) W := Lib.run_unsafeString_none W _ _ _ q
theorem cells_byte : Tryd.prog.cellsOf 5 = 1 := by kernel_rfl

set_option maxHeartbeats 400000 in
set_option maxRecDepth 100000 in
theorem tell_calls {B b : Nat} {p v o : Value} {bs : List UInt8} {k lo hi : Int} {w : World} (h : DecV B b p v o bs k lo hi w) (hBw : B ≤ w.heap.size) :
    Calls Tryd.prog 17 #[.pointer (some ⟨b, 0, none⟩)] w fun e w' => e = .returned (.string ⟨bs.toArray⟩) ∧ Below B w w' ∧ w'.heap[b]? = w.heap[b]? := by
  have hbl := h.lt
  have HD := Aside0.mk h
  have hUS := us_none
  have c1 : w.cell? ⟨b, 1, none⟩ = some v := h.cell 1
  have c1d : w.drew.cell? ⟨b, 1, none⟩ = some v := c1
  have hown := h.ownV
  have hneV := h.neV
  clear h
  rcases hown.2 with ⟨rfl, h0⟩ | ⟨g, cap, cur, rfl, hbg, hg, hnc, hcm, hcs, htake⟩
  · have hbs : bs = [] := List.eq_nil_of_length_eq_zero h0
    subst hbs
    have hSD : (Builtin.unsafeSliceData_ #[23] 53 #[.slice none 0 0]).run Tryd.prog w.drew = .ok (.pointer none) w.drew := rfl
    clear hown hneV h0
    go_enter Tryd.func17, Tryd.ntmps17
    go_wp2
    go_region
    all_goals (go_wp2; go_ret; exact ⟨rfl, Below.drew (Below.refl B w), rfl⟩)
  · by_cases hb0 : bs = []
    · subst hb0
      replace c1 : w.cell? ⟨b, 1, none⟩ = some (.slice (some ⟨g, 0, none⟩) 0 cap) := c1
      replace c1d : w.drew.cell? ⟨b, 1, none⟩ = some (.slice (some ⟨g, 0, none⟩) 0 cap) := c1d
      by_cases hc0 : cap = 0
      · subst hc0
        have hSD : (Builtin.unsafeSliceData_ #[23] 53 #[.slice (some ⟨g, 0, none⟩) 0 0]).run Tryd.prog w.drew = .ok (.pointer (some ⟨w.drew.heap.size, 0, none⟩)) (w.drew.alloc (.view ⟨g, 0, none⟩ 5)) :=
          Lib.run_unsafeSliceData_zero w.drew _ _ 5 Tryd.underlying53 ⟨g, 0, none⟩ 0 (5, cur.size) (by have hg' : w.drew.heap[g]? = some (.cells cur 5 (0, 0)) := hg; simp [World.shape?, hg'])
        have c2 : (w.drew.alloc (.view ⟨g, 0, none⟩ 5)).cell? ⟨b, 1, none⟩ = some (.slice (some ⟨g, 0, none⟩) 0 0) := (World.cell?_alloc_past _ _ _ hbl).trans c1d
        have c3 : (w.alloc (.view ⟨g, 0, none⟩ 5)).drew.cell? ⟨b, 1, none⟩ = some (.slice (some ⟨g, 0, none⟩) 0 0) := c2
        clear hown hneV htake hcs hcm hnc hg
        go_enter Tryd.func17, Tryd.ntmps17
        go_wp2
        go_region
        all_goals (go_wp2; go_ret; exact ⟨rfl, (Below.drew (Below.refl B w)).alloc hBw _, Below.heap_alloc w _ _ hbl⟩)
      · have hSD : (Builtin.unsafeSliceData_ #[23] 53 #[.slice (some ⟨g, 0, none⟩) 0 cap]).run Tryd.prog w.drew = .ok (.pointer (some ⟨g, 0, none⟩)) w.drew :=
          Lib.run_unsafeSliceData_row _ _ _ _ _ _ hc0
        clear hown hc0 hneV htake hcs hcm hnc hg
        go_enter Tryd.func17, Tryd.ntmps17
        go_wp2
        go_region
        all_goals (go_wp2; go_ret; exact ⟨rfl, Below.drew (Below.refl B w), rfl⟩)
    · have hl0 : bs.length ≠ 0 := by simpa using hb0
      have hgb : b ≠ g := fun e => hneV (by rw [e]; rfl)
      obtain ⟨n, hn⟩ : ∃ n, n = bs.length := ⟨_, rfl⟩
      have hSD : (Builtin.unsafeSliceData_ #[23] 53 #[.slice (some ⟨g, 0, none⟩) bs.length cap]).run Tryd.prog w.drew = .ok (.pointer (some ⟨g, 0, none⟩)) w.drew :=
        Lib.run_unsafeSliceData_row _ _ _ _ _ _ (by omega)
      have hUS2 : (Builtin.unsafeString_ #[53, 3] 9 #[.pointer (some ⟨g, 0, none⟩), .int .i64 bs.length]).run Tryd.prog w.drew = .ok (.string ⟨bs.toArray⟩) (w.drew.freeze ⟨g, 0, none⟩ bs.length) := by
        refine Lib.run_unsafeString_row w.drew 53 3 9 5 Tryd.underlying53 cells_byte g cur.size (by have hg' : w.drew.heap[g]? = some (.cells cur 5 (0, 0)) := hg; simp [World.shape?, hg']) bs hb0 (by omega) (by unfold maxLen at hcm; omega) ?_
        intro j x hx
        exact hown.cells (g := g) rfl j (.int .u8 x.toNat) (by simp [bytesV, hx])
      rw [← hn] at hSD hUS2 c1 c1d
      clear hown hUS hneV htake hcs hcm hnc hg hn
      go_enter Tryd.func17, Tryd.ntmps17
      go_wp2
      go_region
      all_goals (go_wp2; go_ret; exact ⟨rfl, Lib.below_freeze (Below.drew (Below.refl B w)) (p := ⟨g, 0, none⟩) hbg _, freeze_other _ ⟨g, 0, none⟩ _ _ hgb⟩)
end Go.Proofs.YtoejbjmdcokojaaDoor.Hand
