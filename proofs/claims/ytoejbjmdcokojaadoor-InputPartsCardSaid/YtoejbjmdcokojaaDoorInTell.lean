/- By hand: what the decoder has told, as a text. -/
import Derived.Test.YtoejbjmdcokojaaDoorInFeed
import Derived.Lib.UnsafeStr
namespace Go.Proofs.YtoejbjmdcokojaaDoor.Hand
set_option linter.unusedVariables false
set_option linter.unusedSimpArgs false
open Go Go.RowKit Go.Proofs.YtoejbjmdcokojaaDoorW.PrintWords

theorem freeze_other (w : World) (p : Addr) (n k : Nat) (h : k ≠ p.block) : (w.freeze p n).heap[k]? = w.heap[k]? := by
  unfold World.freeze
  split
  · rfl
  · simp [Array.getElem?_modify, Ne.symm h]
theorem keeps_freeze {B g : Nat} {Q : Nat → Prop} {a w : World} (h : Keeps B Q a w) (hg : B ≤ g) (hq : ¬ Q g) (n : Nat) : Keeps B Q a (w.freeze ⟨g, 0, none⟩ n) :=
  ⟨Lib.below_freeze h.low (p := ⟨g, 0, none⟩) hg n, fun q hQ hl => (freeze_other w ⟨g, 0, none⟩ n q (fun e => hq (show Q g from (show q = g from e) ▸ hQ))).trans (h.kept q hQ hl)⟩
theorem us_none (W : World) (q : Option Addr) : (Builtin.unsafeString_ #[53, 3] 9 #[.pointer q, .int .i64 0]).run Tryd.prog W = .ok (.string .empty) W := Lib.run_unsafeString_none W _ _ _ q
theorem cells_byte : Tryd.prog.cellsOf 5 = 1 := by kernel_rfl

theorem DecV.drew' {B b : Nat} {Q : Nat → Prop} {p v o : Value} {bs : List UInt8} {k lo hi : Int} {w : World} (h : DecV B Q b p v o bs k lo hi w) : DecV B Q b p v o bs k lo hi w.drew := ⟨h.base, h.blk, h.ptr, h.ownV, h.qn, h.qv⟩
/-- What 'String()' leaves: all that the buffer holds is frozen in it. -/
theorem DecV.froze {B b g cap : Nat} {Q : Nat → Prop} {p o : Value} {bs : List UInt8} {k lo hi : Int} {w : World} (h : DecV B Q b p (.slice (some ⟨g, 0, none⟩) bs.length cap) o bs k lo hi w) : DecV B Q b p (.slice (some ⟨g, 0, none⟩) bs.length cap) o bs k lo hi (w.freeze ⟨g, 0, none⟩ bs.length) := by
  have hgb : b ≠ g := fun e => h.neV (by rw [e]; rfl)
  refine ⟨h.base, (freeze_other _ ⟨g, 0, none⟩ _ _ hgb).trans h.blk, h.ptr, ?_, fun q hq => by have := h.qn q hq; unfold World.freeze; split <;> simpa, h.qv⟩
  have hown := h.ownV
  refine ⟨hown.1, ?_⟩
  rcases hown.2 with ⟨hv, _⟩ | ⟨g', cap', cur, fz, hv, hbg, hg, hfz, rest⟩
  · cases hv
  · injection hv with ha _ hcap
    injection ha with ha
    injection ha with hgg _ _
    subst hgg
    subst hcap
    unfold World.freeze
    split
    · exact .inr ⟨g, _, cur, fz, rfl, hbg, hg, hfz, rest⟩
    · obtain ⟨flo, fhi⟩ := fz
      refine .inr ⟨g, _, cur, (if flo == fhi then (0, 0 + bs.length) else (min flo 0, max fhi (0 + bs.length))), rfl, hbg, ?_, ?_, rest⟩
      · simp [Array.getElem?_modify, hg]
      · simp only at hfz
        split <;> simp <;> omega

set_option maxHeartbeats 400000 in
set_option maxRecDepth 100000 in
theorem tell_calls {B b : Nat} {Q : Nat → Prop} {p v o : Value} {bs : List UInt8} {k lo hi : Int} {w : World} (h : DecV B Q b p v o bs k lo hi w) (hBw : B ≤ w.heap.size) :
    Calls Tryd.prog 17 #[.pointer (some ⟨b, 0, none⟩)] w fun e w' => e = .returned (.string ⟨bs.toArray⟩) ∧ Keeps B Q w w' ∧ DecV B Q b p v o bs k lo hi w' ∧ ∀ q, q < w.heap.size → v.ownBlock ≠ some q → w'.heap[q]? = w.heap[q]? := by
  have hbl := h.lt
  have HD := Aside0.mk h
  have hUS := us_none
  have c1 : w.cell? ⟨b, 1, none⟩ = some v := h.cell 1
  have c1d : w.drew.cell? ⟨b, 1, none⟩ = some v := c1
  have hown := h.ownV
  have hneV := h.neV
  clear h
  rcases hown.2 with ⟨rfl, h0⟩ | ⟨g, cap, cur, fz, rfl, hbg, hg, hfz, hnc, hcm, hcs, htake⟩
  · have hbs : bs = [] := List.eq_nil_of_length_eq_zero h0
    subst hbs
    have hSD : (Builtin.unsafeSliceData_ #[23] 53 #[.slice none 0 0]).run Tryd.prog w.drew = .ok (.pointer none) w.drew := rfl
    clear hown hneV h0
    go_enter Tryd.func17, Tryd.ntmps17
    go_wp2
    go_region
    all_goals (go_wp2; go_ret; exact ⟨rfl, Keeps.drew (Keeps.refl B Q w), HD.out.drew', fun _ _ _ => rfl⟩)
  · by_cases hb0 : bs = []
    · subst hb0
      replace c1 : w.cell? ⟨b, 1, none⟩ = some (.slice (some ⟨g, 0, none⟩) 0 cap) := c1
      replace c1d : w.drew.cell? ⟨b, 1, none⟩ = some (.slice (some ⟨g, 0, none⟩) 0 cap) := c1d
      by_cases hc0 : cap = 0
      · subst hc0
        have hSD : (Builtin.unsafeSliceData_ #[23] 53 #[.slice (some ⟨g, 0, none⟩) 0 0]).run Tryd.prog w.drew = .ok (.pointer (some ⟨w.drew.heap.size, 0, none⟩)) (w.drew.alloc (.view ⟨g, 0, none⟩ 5)) :=
          Lib.run_unsafeSliceData_zero w.drew _ _ 5 Tryd.underlying53 ⟨g, 0, none⟩ 0 (5, cur.size) (by have hg' : w.drew.heap[g]? = some (.cells cur 5 fz) := hg; simp [World.shape?, hg'])
        have c2 : (w.drew.alloc (.view ⟨g, 0, none⟩ 5)).cell? ⟨b, 1, none⟩ = some (.slice (some ⟨g, 0, none⟩) 0 0) := (World.cell?_alloc_past _ _ _ hbl).trans c1d
        have c3 : (w.alloc (.view ⟨g, 0, none⟩ 5)).drew.cell? ⟨b, 1, none⟩ = some (.slice (some ⟨g, 0, none⟩) 0 0) := c2
        clear hown hneV htake hcs hcm hnc hg
        go_enter Tryd.func17, Tryd.ntmps17
        go_wp2
        go_region
        all_goals (go_wp2; go_ret; exact ⟨rfl, (Keeps.drew (Keeps.refl B Q w)).alloc hBw _, HD.out.drew'.below (below_alloc (Below.refl _ _) _), fun q hq _ => Below.heap_alloc w _ _ hq⟩)
      · have hSD : (Builtin.unsafeSliceData_ #[23] 53 #[.slice (some ⟨g, 0, none⟩) 0 cap]).run Tryd.prog w.drew = .ok (.pointer (some ⟨g, 0, none⟩)) w.drew :=
          Lib.run_unsafeSliceData_row _ _ _ _ _ _ hc0
        clear hown hc0 hneV htake hcs hcm hnc hg
        go_enter Tryd.func17, Tryd.ntmps17
        go_wp2
        go_region
        all_goals (go_wp2; go_ret; exact ⟨rfl, Keeps.drew (Keeps.refl B Q w), HD.out.drew', fun _ _ _ => rfl⟩)
    · have hl0 : bs.length ≠ 0 := by simpa using hb0
      have hgb : b ≠ g := fun e => hneV (by rw [e]; rfl)
      obtain ⟨n, hn⟩ : ∃ n, n = bs.length := ⟨_, rfl⟩
      have hSD : (Builtin.unsafeSliceData_ #[23] 53 #[.slice (some ⟨g, 0, none⟩) bs.length cap]).run Tryd.prog w.drew = .ok (.pointer (some ⟨g, 0, none⟩)) w.drew :=
        Lib.run_unsafeSliceData_row _ _ _ _ _ _ (by omega)
      have hUS2 : (Builtin.unsafeString_ #[53, 3] 9 #[.pointer (some ⟨g, 0, none⟩), .int .i64 bs.length]).run Tryd.prog w.drew = .ok (.string ⟨bs.toArray⟩) (w.drew.freeze ⟨g, 0, none⟩ bs.length) := by
        refine Lib.run_unsafeString_row w.drew 53 3 9 5 Tryd.underlying53 cells_byte g cur.size (by have hg' : w.drew.heap[g]? = some (.cells cur 5 fz) := hg; simp [World.shape?, hg']) bs hb0 (by omega) (by unfold maxLen at hcm; omega) ?_
        intro j x hx
        exact hown.cells (g := g) rfl j (.int .u8 x.toNat) (by simp [bytesV, hx])
      rw [← hn] at hSD hUS2 c1 c1d
      have HF : Aside0 (DecV B Q b p (.slice (some ⟨g, 0, none⟩) bs.length cap) o bs k lo hi (w.drew.freeze ⟨g, 0, none⟩ n)) := ⟨by rw [hn]; exact HD.out.drew'.froze⟩
      clear hown hUS hneV htake hcs hcm hnc hg hn
      go_enter Tryd.func17, Tryd.ntmps17
      go_wp2
      go_region
      all_goals (go_wp2; go_ret; exact ⟨rfl, keeps_freeze (Keeps.drew (Keeps.refl B Q w)) (g := g) hbg (HD.out.qv g rfl) _, HF.out, fun q _ hq => freeze_other _ ⟨g, 0, none⟩ _ _ (fun e => hq (by rw [e]; rfl))⟩)
end Go.Proofs.YtoejbjmdcokojaaDoor.Hand
