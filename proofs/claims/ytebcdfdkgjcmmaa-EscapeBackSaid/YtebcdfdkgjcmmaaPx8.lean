-- Written by wip/tools/gprint.py of this session, over the kit's print. Lean checks it.
import Derived.Test.YtebcdfdkgjcmmaaPx0
import Derived.Test.YtebcdfdkgjcmmaaPx6
import Derived.Test.YtebcdfdkgjcmmaaPx7
namespace Go.Proofs.Ytebcdfdkgjcmmaa.P
open Go.Proofs.Ytebcdfdkgjcmmaa.Hand
open Go.RowKit Go.Proofs.YtebcdfdkgjcmmaaW.PrintWords Go.Proofs.YtebcdfdkgjcmmaaW.PrintLast Go.Proofs.YtebcdfdkgjcmmaaW.PrintMore
attribute [local go_sem] max2_int min2_int max_two min_two max_three min_three max_four min_four   -- for this text's walks alone
attribute [local go_sem] Go.IntKind.wrap_u32
set_option linter.unusedVariables false
set_option linter.unusedSimpArgs false

/-! ### portiereref04_Take: function 17 -/
mutual
def portiereref04_Take.j0 : Nat → ByteArray → Int → Bool → Bool → Option (ByteArray × Int × Int)
  | 0, _, _, _, _ => none
  | k + 1, x0, x1, x2, x32 => if x32 = true then (some ((⟨#[]⟩ : ByteArray), 0, 0)) else (if (wrap64 (x1 + 1)) < (x0.size : Int) then (if 0 ≤ (wrap64 (x1 + 1)) then (portiereref04_Take.j1 k x0 x1 x2 ((bt x0 (wrap64 (x1 + 1))) == 35)) else (none)) else (portiereref04_Take.j1 k x0 x1 x2 false))
def portiereref04_Take.j1 : Nat → ByteArray → Int → Bool → Bool → Option (ByteArray × Int × Int)
  | 0, _, _, _, _ => none
  | k + 1, x0, x1, x2, x44 => if x44 = true then ((portiereref04_numeric.f k x0 x1).bind fun bt158 => (some (bt158.1, bt158.2.1, bt158.2.2))) else (portiereref04_Take.l0 k x0 x1 x2 0 (⟨#[]⟩ : ByteArray) 0 0)
def portiereref04_Take.l0 : Nat → ByteArray → Int → Bool → Int → ByteArray → Int → Int → Option (ByteArray × Int × Int)
  | 0, _, _, _, _, _, _, _ => none
  | k + 1, x0, x1, x2, x9, x10, x11, x12 => if x12 < 22 then ((portiereref04_code.f x12).bind fun bt161 => ((portiereref04_starts.f x0 (wrap64 (x1 + 1)) bt161.2.1).bind fun t164 => (if t164 = true then ((portiereref04_starts.f x0 (wrap64 (x1 + (wrap64 (1 + (bt161.2.1.size : Int))))) (⟨#[59]⟩ : ByteArray)).bind fun t165 => (if t165 = true then (portiereref04_Take.j3 k x0 x1 x2 x9 x10 x11 x12 bt161.1 bt161.2.2 (wrap64 ((wrap64 (1 + (bt161.2.1.size : Int))) + 1)) t165) else (portiereref04_Take.j3 k x0 x1 x2 x9 x10 x11 x12 bt161.1 bt161.2.2 (wrap64 (1 + (bt161.2.1.size : Int))) t165))) else (portiereref04_Take.l0 k x0 x1 x2 x9 x10 x11 (wrap64 (x12 + 1)))))) else (if x11 = 0 then (portiereref04_Take.j5 k x0 x1 x9 x10 x11 false) else (if x2 = true then (portiereref04_Take.j5 k x0 x1 x9 x10 x11 (decide ((wrap64 (x1 + x9)) < (x0.size : Int)))) else (portiereref04_Take.j5 k x0 x1 x9 x10 x11 false)))
def portiereref04_Take.j3 : Nat → ByteArray → Int → Bool → Int → ByteArray → Int → Int → Int → Bool → Int → Bool → Option (ByteArray × Int × Int)
  | 0, _, _, _, _, _, _, _, _, _, _, _ => none
  | k + 1, x0, x1, x2, x9, x10, x11, x12, x13, x15, x16, x17 => if x16 > x9 then (if x17 = true then (portiereref04_Take.j4 k x0 x1 x2 x9 x10 x11 x12 x13 x16 x17 true) else (portiereref04_Take.j4 k x0 x1 x2 x9 x10 x11 x12 x13 x16 x17 x15)) else (portiereref04_Take.j4 k x0 x1 x2 x9 x10 x11 x12 x13 x16 x17 false)
def portiereref04_Take.j4 : Nat → ByteArray → Int → Bool → Int → ByteArray → Int → Int → Int → Int → Bool → Bool → Option (ByteArray × Int × Int)
  | 0, _, _, _, _, _, _, _, _, _, _, _ => none
  | k + 1, x0, x1, x2, x9, x10, x11, x12, x13, x16, x17, x86 => if x86 = true then ((some (([x13] : List Int) : List Int)).bind fun y166 => (if x17 = true then (portiereref04_Take.l0 k x0 x1 x2 x16 (runesBytes y166) 0 (wrap64 (x12 + 1))) else (portiereref04_Take.l0 k x0 x1 x2 x16 (runesBytes y166) 1 (wrap64 (x12 + 1))))) else (portiereref04_Take.l0 k x0 x1 x2 x9 x10 x11 (wrap64 (x12 + 1)))
def portiereref04_Take.j5 : Nat → ByteArray → Int → Int → ByteArray → Int → Bool → Option (ByteArray × Int × Int)
  | 0, _, _, _, _, _, _ => none
  | k + 1, x0, x1, x9, x10, x11, x104 => if x104 = true then (if 0 ≤ (wrap64 (x1 + x9)) then (if (wrap64 (x1 + x9)) < (x0.size : Int) then (if (bt x0 (wrap64 (x1 + x9))) = 61 then (some ((⟨#[]⟩ : ByteArray), 0, 0)) else (if (bt x0 (wrap64 (x1 + x9))) ≥ 97 then (if (bt x0 (wrap64 (x1 + x9))) ≤ 122 then (some ((⟨#[]⟩ : ByteArray), 0, 0)) else (if (bt x0 (wrap64 (x1 + x9))) ≥ 65 then (if (bt x0 (wrap64 (x1 + x9))) ≤ 90 then (some ((⟨#[]⟩ : ByteArray), 0, 0)) else (if (bt x0 (wrap64 (x1 + x9))) ≥ 48 then (if (bt x0 (wrap64 (x1 + x9))) ≤ 57 then (some ((⟨#[]⟩ : ByteArray), 0, 0)) else (some (x10, x9, x11))) else (some (x10, x9, x11)))) else (if (bt x0 (wrap64 (x1 + x9))) ≥ 48 then (if (bt x0 (wrap64 (x1 + x9))) ≤ 57 then (some ((⟨#[]⟩ : ByteArray), 0, 0)) else (some (x10, x9, x11))) else (some (x10, x9, x11))))) else (if (bt x0 (wrap64 (x1 + x9))) ≥ 65 then (if (bt x0 (wrap64 (x1 + x9))) ≤ 90 then (some ((⟨#[]⟩ : ByteArray), 0, 0)) else (if (bt x0 (wrap64 (x1 + x9))) ≥ 48 then (if (bt x0 (wrap64 (x1 + x9))) ≤ 57 then (some ((⟨#[]⟩ : ByteArray), 0, 0)) else (some (x10, x9, x11))) else (some (x10, x9, x11)))) else (if (bt x0 (wrap64 (x1 + x9))) ≥ 48 then (if (bt x0 (wrap64 (x1 + x9))) ≤ 57 then (some ((⟨#[]⟩ : ByteArray), 0, 0)) else (some (x10, x9, x11))) else (some (x10, x9, x11)))))) else (none)) else (none)) else (some (x10, x9, x11))
end
def portiereref04_Take.f (k : Nat) (a0 : ByteArray) (a1 : Int) (a2 : Bool) : Option (ByteArray × Int × Int) := if a1 < 0 then (portiereref04_Take.j0 k a0 a1 a2 true) else (if a1 ≥ (a0.size : Int) then (portiereref04_Take.j0 k a0 a1 a2 true) else (if 0 ≤ a1 then (if a1 < (a0.size : Int) then (portiereref04_Take.j0 k a0 a1 a2 ((bt a0 a1) != 38)) else (none)) else (none)))
theorem portiereref04_Take.mono_l : ∀ k, (∀ y0 y1 y2 y3, LeO (portiereref04_Take.j0 k y0 y1 y2 y3) (portiereref04_Take.j0 (k + 1) y0 y1 y2 y3)) ∧ (∀ y0 y1 y2 y3, LeO (portiereref04_Take.j1 k y0 y1 y2 y3) (portiereref04_Take.j1 (k + 1) y0 y1 y2 y3)) ∧ (∀ y0 y1 y2 y3 y4 y5 y6, LeO (portiereref04_Take.l0 k y0 y1 y2 y3 y4 y5 y6) (portiereref04_Take.l0 (k + 1) y0 y1 y2 y3 y4 y5 y6)) ∧ (∀ y0 y1 y2 y3 y4 y5 y6 y7 y8 y9 y10, LeO (portiereref04_Take.j3 k y0 y1 y2 y3 y4 y5 y6 y7 y8 y9 y10) (portiereref04_Take.j3 (k + 1) y0 y1 y2 y3 y4 y5 y6 y7 y8 y9 y10)) ∧ (∀ y0 y1 y2 y3 y4 y5 y6 y7 y8 y9 y10, LeO (portiereref04_Take.j4 k y0 y1 y2 y3 y4 y5 y6 y7 y8 y9 y10) (portiereref04_Take.j4 (k + 1) y0 y1 y2 y3 y4 y5 y6 y7 y8 y9 y10)) ∧ (∀ y0 y1 y2 y3 y4 y5, LeO (portiereref04_Take.j5 k y0 y1 y2 y3 y4 y5) (portiereref04_Take.j5 (k + 1) y0 y1 y2 y3 y4 y5))
  | 0 => ⟨fun _ _ _ _ r h => by simp [portiereref04_Take.j0] at h, fun _ _ _ _ r h => by simp [portiereref04_Take.j1] at h, fun _ _ _ _ _ _ _ r h => by simp [portiereref04_Take.l0] at h, fun _ _ _ _ _ _ _ _ _ _ _ r h => by simp [portiereref04_Take.j3] at h, fun _ _ _ _ _ _ _ _ _ _ _ r h => by simp [portiereref04_Take.j4] at h, fun _ _ _ _ _ _ r h => by simp [portiereref04_Take.j5] at h⟩
  | k + 1 => by
    obtain ⟨ih0, ih1, ih2, ih3, ih4, ih5⟩ := portiereref04_Take.mono_l k
    refine ⟨?_, ?_, ?_, ?_, ?_, ?_⟩
    · intro y0 y1 y2 y3
      unfold portiereref04_Take.j0
      repeat' first
      | (with_reducible exact ih0 _ _ _ _)
      | (with_reducible exact ih1 _ _ _ _)
      | (with_reducible exact ih2 _ _ _ _ _ _ _)
      | (with_reducible exact ih3 _ _ _ _ _ _ _ _ _ _ _)
      | (with_reducible exact ih4 _ _ _ _ _ _ _ _ _ _ _)
      | (with_reducible exact ih5 _ _ _ _ _ _)
      | (with_reducible exact portiereref04_numeric.mono _ _ _)
      | (with_reducible exact LeO.refl _)
      | (with_reducible exact LeO.none _)
      | (with_reducible refine LeO.ite ?_ ?_)
      | (with_reducible refine LeO.bind ?_ (fun _ => ?_))
      | exact ih0 _ _ _ _
      | exact ih1 _ _ _ _
      | exact ih2 _ _ _ _ _ _ _
      | exact ih3 _ _ _ _ _ _ _ _ _ _ _
      | exact ih4 _ _ _ _ _ _ _ _ _ _ _
      | exact ih5 _ _ _ _ _ _
      | exact portiereref04_numeric.mono _ _ _
      | exact LeO.none _
      | refine LeO.ite ?_ ?_
      | refine LeO.bind ?_ (fun _ => ?_)
    · intro y0 y1 y2 y3
      unfold portiereref04_Take.j1
      repeat' first
      | (with_reducible exact ih0 _ _ _ _)
      | (with_reducible exact ih1 _ _ _ _)
      | (with_reducible exact ih2 _ _ _ _ _ _ _)
      | (with_reducible exact ih3 _ _ _ _ _ _ _ _ _ _ _)
      | (with_reducible exact ih4 _ _ _ _ _ _ _ _ _ _ _)
      | (with_reducible exact ih5 _ _ _ _ _ _)
      | (with_reducible exact portiereref04_numeric.mono _ _ _)
      | (with_reducible exact LeO.refl _)
      | (with_reducible exact LeO.none _)
      | (with_reducible refine LeO.ite ?_ ?_)
      | (with_reducible refine LeO.bind ?_ (fun _ => ?_))
      | exact ih0 _ _ _ _
      | exact ih1 _ _ _ _
      | exact ih2 _ _ _ _ _ _ _
      | exact ih3 _ _ _ _ _ _ _ _ _ _ _
      | exact ih4 _ _ _ _ _ _ _ _ _ _ _
      | exact ih5 _ _ _ _ _ _
      | exact portiereref04_numeric.mono _ _ _
      | exact LeO.none _
      | refine LeO.ite ?_ ?_
      | refine LeO.bind ?_ (fun _ => ?_)
    · intro y0 y1 y2 y3 y4 y5 y6
      unfold portiereref04_Take.l0
      repeat' first
      | (with_reducible exact ih0 _ _ _ _)
      | (with_reducible exact ih1 _ _ _ _)
      | (with_reducible exact ih2 _ _ _ _ _ _ _)
      | (with_reducible exact ih3 _ _ _ _ _ _ _ _ _ _ _)
      | (with_reducible exact ih4 _ _ _ _ _ _ _ _ _ _ _)
      | (with_reducible exact ih5 _ _ _ _ _ _)
      | (with_reducible exact portiereref04_numeric.mono _ _ _)
      | (with_reducible exact LeO.refl _)
      | (with_reducible exact LeO.none _)
      | (with_reducible refine LeO.ite ?_ ?_)
      | (with_reducible refine LeO.bind ?_ (fun _ => ?_))
      | exact ih0 _ _ _ _
      | exact ih1 _ _ _ _
      | exact ih2 _ _ _ _ _ _ _
      | exact ih3 _ _ _ _ _ _ _ _ _ _ _
      | exact ih4 _ _ _ _ _ _ _ _ _ _ _
      | exact ih5 _ _ _ _ _ _
      | exact portiereref04_numeric.mono _ _ _
      | exact LeO.none _
      | refine LeO.ite ?_ ?_
      | refine LeO.bind ?_ (fun _ => ?_)
    · intro y0 y1 y2 y3 y4 y5 y6 y7 y8 y9 y10
      unfold portiereref04_Take.j3
      repeat' first
      | (with_reducible exact ih0 _ _ _ _)
      | (with_reducible exact ih1 _ _ _ _)
      | (with_reducible exact ih2 _ _ _ _ _ _ _)
      | (with_reducible exact ih3 _ _ _ _ _ _ _ _ _ _ _)
      | (with_reducible exact ih4 _ _ _ _ _ _ _ _ _ _ _)
      | (with_reducible exact ih5 _ _ _ _ _ _)
      | (with_reducible exact portiereref04_numeric.mono _ _ _)
      | (with_reducible exact LeO.refl _)
      | (with_reducible exact LeO.none _)
      | (with_reducible refine LeO.ite ?_ ?_)
      | (with_reducible refine LeO.bind ?_ (fun _ => ?_))
      | exact ih0 _ _ _ _
      | exact ih1 _ _ _ _
      | exact ih2 _ _ _ _ _ _ _
      | exact ih3 _ _ _ _ _ _ _ _ _ _ _
      | exact ih4 _ _ _ _ _ _ _ _ _ _ _
      | exact ih5 _ _ _ _ _ _
      | exact portiereref04_numeric.mono _ _ _
      | exact LeO.none _
      | refine LeO.ite ?_ ?_
      | refine LeO.bind ?_ (fun _ => ?_)
    · intro y0 y1 y2 y3 y4 y5 y6 y7 y8 y9 y10
      unfold portiereref04_Take.j4
      repeat' first
      | (with_reducible exact ih0 _ _ _ _)
      | (with_reducible exact ih1 _ _ _ _)
      | (with_reducible exact ih2 _ _ _ _ _ _ _)
      | (with_reducible exact ih3 _ _ _ _ _ _ _ _ _ _ _)
      | (with_reducible exact ih4 _ _ _ _ _ _ _ _ _ _ _)
      | (with_reducible exact ih5 _ _ _ _ _ _)
      | (with_reducible exact portiereref04_numeric.mono _ _ _)
      | (with_reducible exact LeO.refl _)
      | (with_reducible exact LeO.none _)
      | (with_reducible refine LeO.ite ?_ ?_)
      | (with_reducible refine LeO.bind ?_ (fun _ => ?_))
      | exact ih0 _ _ _ _
      | exact ih1 _ _ _ _
      | exact ih2 _ _ _ _ _ _ _
      | exact ih3 _ _ _ _ _ _ _ _ _ _ _
      | exact ih4 _ _ _ _ _ _ _ _ _ _ _
      | exact ih5 _ _ _ _ _ _
      | exact portiereref04_numeric.mono _ _ _
      | exact LeO.none _
      | refine LeO.ite ?_ ?_
      | refine LeO.bind ?_ (fun _ => ?_)
    · intro y0 y1 y2 y3 y4 y5
      unfold portiereref04_Take.j5
      repeat' first
      | (with_reducible exact ih0 _ _ _ _)
      | (with_reducible exact ih1 _ _ _ _)
      | (with_reducible exact ih2 _ _ _ _ _ _ _)
      | (with_reducible exact ih3 _ _ _ _ _ _ _ _ _ _ _)
      | (with_reducible exact ih4 _ _ _ _ _ _ _ _ _ _ _)
      | (with_reducible exact ih5 _ _ _ _ _ _)
      | (with_reducible exact portiereref04_numeric.mono _ _ _)
      | (with_reducible exact LeO.refl _)
      | (with_reducible exact LeO.none _)
      | (with_reducible refine LeO.ite ?_ ?_)
      | (with_reducible refine LeO.bind ?_ (fun _ => ?_))
      | exact ih0 _ _ _ _
      | exact ih1 _ _ _ _
      | exact ih2 _ _ _ _ _ _ _
      | exact ih3 _ _ _ _ _ _ _ _ _ _ _
      | exact ih4 _ _ _ _ _ _ _ _ _ _ _
      | exact ih5 _ _ _ _ _ _
      | exact portiereref04_numeric.mono _ _ _
      | exact LeO.none _
      | refine LeO.ite ?_ ?_
      | refine LeO.bind ?_ (fun _ => ?_)
theorem portiereref04_Take.mono : ∀ a0 a1 a2 k, LeO (portiereref04_Take.f k a0 a1 a2) (portiereref04_Take.f (k + 1) a0 a1 a2) := by
  intro a0 a1 a2 k
  obtain ⟨ih0, ih1, ih2, ih3, ih4, ih5⟩ := portiereref04_Take.mono_l k
  unfold portiereref04_Take.f
  repeat' first
      | (with_reducible exact ih0 _ _ _ _)
      | (with_reducible exact ih1 _ _ _ _)
      | (with_reducible exact ih2 _ _ _ _ _ _ _)
      | (with_reducible exact ih3 _ _ _ _ _ _ _ _ _ _ _)
      | (with_reducible exact ih4 _ _ _ _ _ _ _ _ _ _ _)
      | (with_reducible exact ih5 _ _ _ _ _ _)
      | (with_reducible exact portiereref04_numeric.mono _ _ _)
      | (with_reducible exact LeO.refl _)
      | (with_reducible exact LeO.none _)
      | (with_reducible refine LeO.ite ?_ ?_)
      | (with_reducible refine LeO.bind ?_ (fun _ => ?_))
      | exact ih0 _ _ _ _
      | exact ih1 _ _ _ _
      | exact ih2 _ _ _ _ _ _ _
      | exact ih3 _ _ _ _ _ _ _ _ _ _ _
      | exact ih4 _ _ _ _ _ _ _ _ _ _ _
      | exact ih5 _ _ _ _ _ _
      | exact portiereref04_numeric.mono _ _ _
      | exact LeO.none _
      | refine LeO.ite ?_ ?_
      | refine LeO.bind ?_ (fun _ => ?_)
set_option maxHeartbeats 8000000 in
set_option maxRecDepth 100000 in
theorem portiereref04_Take.calls (k : Nat) (a0 : ByteArray) (a1 : Int) (a2 : Bool) (r1 : ByteArray) (r2 : Int) (r3 : Int) (w : World) (h : portiereref04_Take.f k a0 a1 a2 = some (r1, r2, r3)) :
    Calls Try.prog 17 #[.string a0, .int .i64 a1, .bool a2] w fun e w' => e = .returned (.tuple #[.string r1, .int .i64 r2, .int .u8 r3]) ∧ Below w.heap.size w w' := by
  have HB := Aside0.mk (Below.refl w.heap.size w)
  have H : (if a1 < 0 then (portiereref04_Take.j0 k a0 a1 a2 true) else (if a1 ≥ (a0.size : Int) then (portiereref04_Take.j0 k a0 a1 a2 true) else (if 0 ≤ a1 then (if a1 < (a0.size : Int) then (portiereref04_Take.j0 k a0 a1 a2 ((bt a0 a1) != 38)) else (none)) else (none)))) = some (r1, r2, r3) := h
  clear h
  have HC4 := Aside0.mk H
  clear H
  go_enter Try.func17, Try.ntmps17
  go_upto_region 1 with (fail)
  go_cut [32] (fun v32 wc => ∃ (kq : Nat) (x32_3 : Bool), v32 = .bool x32_3 ∧ Aside0 (portiereref04_Take.j0 kq a0 a1 a2 x32_3 = some (r1, r2, r3)) ∧ Aside0 (kq ≤ k) ∧ Aside0 (Below w.heap.size w wc))
  case first =>
    have H := HC4.out
    clear HC4
    by_cases c5 : a1 < 0
    · rw [if_pos c5] at H
      have c5b0 : decide (a1 < 0) = true := decide_eq_true c5
      clear c5
      (first | rw [c5b0] | (simp only [i64_w, i32_w]; rw [c5b0]) | skip)
      have H' := Aside0.mk H
      clear H
      go_wp2
      go_meet
      case rel => exact ⟨_, (true), (by first | rfl | (simp; done) | (simp [*]; done)), H', ⟨by first | omega | exact Nat.le_refl _⟩, ⟨by repeat (first | (with_reducible first | exact HB.out | apply below_alloc | apply pw_below_drewN | apply below_drew1) | exact HB.out)⟩⟩
    · rw [if_neg c5] at H
      have c5b0 : decide (a1 < 0) = false := decide_eq_false c5
      clear c5
      (first | rw [c5b0] | (simp only [i64_w, i32_w]; rw [c5b0]) | skip)
      by_cases c6 : a1 ≥ (a0.size : Int)
      · rw [if_pos c6] at H
        have c6b0 : decide ((a0.size : Int) ≤ a1) = true := decide_eq_true c6
        clear c6
        have H' := Aside0.mk H
        clear H
        go_wp2
        go_meet
        case rel => exact ⟨_, (true), (by first | rfl | (simp; done) | (simp [*]; done)), H', ⟨by first | omega | exact Nat.le_refl _⟩, ⟨by repeat (first | (with_reducible first | exact HB.out | apply below_alloc | apply pw_below_drewN | apply below_drew1) | exact HB.out)⟩⟩
      · rw [if_neg c6] at H
        have c6b0 : decide ((a0.size : Int) ≤ a1) = false := decide_eq_false c6
        clear c6
        by_cases c7 : 0 ≤ a1
        · rw [if_pos c7] at H
          have c7b0 : decide (0 ≤ a1) = true := decide_eq_true c7
          clear c7
          by_cases c8 : a1 < (a0.size : Int)
          · rw [if_pos c8] at H
            have c8b0 : decide (a1 < (a0.size : Int)) = true := decide_eq_true c8
            clear c8
            have H' := Aside0.mk H
            clear H
            have p9 : 0 ≤ (a1 : Int) := of_decide_eq_true (by first | (with_reducible assumption) | assumption)
            have q9 : a1 < (a0.size : Int) := of_decide_eq_true (by first | (with_reducible assumption) | assumption)
            have hx9 := bt_at a0 a1
            replace p9 := eq_true p9
            replace q9 := eq_true q9
            go_wp2
            go_meet
            case rel => exact ⟨_, (((bt a0 a1) != 38)), (by first | rfl | (simp; done) | (simp [*]; done)), H', ⟨by first | omega | exact Nat.le_refl _⟩, ⟨by repeat (first | (with_reducible first | exact HB.out | apply below_alloc | apply pw_below_drewN | apply below_drew1) | exact HB.out)⟩⟩
          · rw [if_neg c8] at H
            exact absurd H (by simp)
        · rw [if_neg c7] at H
          exact absurd H (by simp)
  case rest =>
    clear HC4
    try clear c1
    try clear p2
    try clear c5
    try clear c5b0
    try clear c6
    try clear c6b0
    try clear c7
    try clear c7b0
    try clear c8
    try clear c8b0
    try clear p9
    try clear q9
    try clear hx9
    try clear p9
    try clear q9
    obtain ⟨kq, x32_3, rfl, HA, HJ3, HB⟩ := hcut
    cases kq with
    | zero => exact absurd HA.out (by simp [portiereref04_Take.j0])
    | succ kj3 =>
      have H := HA.out
      clear HA
      simp only [portiereref04_Take.j0] at H
      by_cases c10 : x32_3 = true
      · subst c10
        have H1 : (some ((⟨#[]⟩ : ByteArray), 0, 0)) = some (r1, r2, r3) := by rw [if_pos rfl] at H; exact H
        clear H
        have H := H1
        clear H1
        simp only [Option.some.injEq, Prod.mk.injEq] at H
        obtain ⟨rfl, rfl, rfl⟩ := H
        go_wp2
        go_ret3
        exact ⟨by first | rfl | (simp [errW_none, errW_some] <;> rfl) | (simp [*, errW_none, errW_some] <;> rfl), by repeat (first | (with_reducible first | exact HB.out | apply below_alloc | apply pw_below_drewN | apply below_drew1) | exact HB.out)⟩
      · replace c10 := Bool.eq_false_iff.mpr c10
        subst c10
        have H1 : (if (wrap64 (a1 + 1)) < (a0.size : Int) then (if 0 ≤ (wrap64 (a1 + 1)) then (portiereref04_Take.j1 kj3 a0 a1 a2 ((bt a0 (wrap64 (a1 + 1))) == 35)) else (none)) else (portiereref04_Take.j1 kj3 a0 a1 a2 false)) = some (r1, r2, r3) := by rw [if_neg (show ¬ (false = true) by decide)] at H; exact H
        clear H
        have H := H1
        clear H1
        have HC11 := Aside0.mk H
        clear H
        go_upto_region 3 with (fail)
        go_cut [44] (fun v44 wc => ∃ (kq : Nat) (x44_10 : Bool), v44 = .bool x44_10 ∧ Aside0 (portiereref04_Take.j1 kq a0 a1 a2 x44_10 = some (r1, r2, r3)) ∧ Aside0 (kq ≤ kj3) ∧ Aside0 (Below w.heap.size w wc))
        case first =>
          have H := HC11.out
          clear HC11
          by_cases c12 : (wrap64 (a1 + 1)) < (a0.size : Int)
          · rw [if_pos c12] at H
            (try (have c12u : (((a1 + 1)) < (a0.size : Int)) := by (have h_ := c12; unfold wrap64 at h_; omega)))
            (try (have c12ub0 : decide (((a1 + 1)) < (a0.size : Int)) = true := decide_eq_true c12u))
            (try clear c12u)
            have c12b0 : decide ((wrap64 (a1 + 1)) < (a0.size : Int)) = true := decide_eq_true c12
            clear c12
            (first | rw [c12b0] | (simp only [i64_w, i32_w]; rw [c12b0]) | skip)
            obtain ⟨ji13, hji13⟩ : ∃ j_ : Int, (wrap64 (a1 + 1)) = j_ := ⟨_, rfl⟩
            replace H : (if 0 ≤ (ji13) then (portiereref04_Take.j1 kj3 a0 a1 a2 ((bt a0 (ji13)) == 35)) else (none)) = some (r1, r2, r3) := by first | (rw [hji13] at H; exact H) | (simp only [hji13] at H ⊢; exact H)
            (try rw [hji13] at c12b0)
            have hji13w : (IntKind.i64.wrap (a1 + 1)) = ji13 := (i64_w _).trans hji13
            by_cases c14 : 0 ≤ (ji13)
            · rw [if_pos c14] at H
              have c14b0 : decide (0 ≤ (ji13)) = true := decide_eq_true c14
              clear c14
              have H' := Aside0.mk H
              clear H
              have p15 : 0 ≤ ((ji13) : Int) := of_decide_eq_true (by first | (with_reducible assumption) | assumption)
              have q15 : (ji13) < (a0.size : Int) := of_decide_eq_true (by first | (with_reducible assumption) | assumption)
              have hx15 := bt_at a0 (ji13)
              replace p15 := eq_true p15
              replace q15 := eq_true q15
              go_wp2
              go_meet
              case rel => exact ⟨_, (((bt a0 (ji13)) == 35)), (by first | rfl | (simp; done) | (simp only [← hji13] <;> (first | rfl | simp)) | (simp [*]; done)), (by first | exact H' | (simp only [hji13]; exact H')), ⟨by have := HJ3.out; first | omega | exact Nat.le_refl _⟩, ⟨by repeat (first | (with_reducible first | exact HB.out | apply below_alloc | apply pw_below_drewN | apply below_drew1) | exact HB.out)⟩⟩
            · rw [if_neg c14] at H
              exact absurd H (by simp)
          · rw [if_neg c12] at H
            (try (have c12u : ¬ (((a1 + 1)) < (a0.size : Int)) := by (have h_ := c12; unfold wrap64 at h_; omega)))
            (try (have c12ub0 : decide (((a1 + 1)) < (a0.size : Int)) = false := decide_eq_false c12u))
            (try clear c12u)
            have c12b0 : decide ((wrap64 (a1 + 1)) < (a0.size : Int)) = false := decide_eq_false c12
            clear c12
            (first | rw [c12b0] | (simp only [i64_w, i32_w]; rw [c12b0]) | skip)
            have H' := Aside0.mk H
            clear H
            go_wp2
            go_meet
            case rel => exact ⟨_, (false), (by first | rfl | (simp; done) | (simp [*]; done)), H', ⟨by have := HJ3.out; first | omega | exact Nat.le_refl _⟩, ⟨by repeat (first | (with_reducible first | exact HB.out | apply below_alloc | apply pw_below_drewN | apply below_drew1) | exact HB.out)⟩⟩
        case rest =>
          clear HC11
          try clear c1
          try clear p1
          try clear q1
          try clear hx1
          try clear p2
          try clear c5
          try clear c5b0
          try clear c6
          try clear c6b0
          try clear p6
          try clear c7
          try clear c7b0
          try clear c8
          try clear c8b0
          try clear p9
          try clear q9
          try clear hx9
          try clear c10
          try clear c12
          try clear c12b0
          try clear c14
          try clear c14b0
          try clear p15
          try clear q15
          try clear hx15
          try clear p15
          try clear p2
          try clear p9
          try clear q15
          try clear q9
          obtain ⟨kq, x44_10, rfl, HA, HJ10, HB⟩ := hcut
          cases kq with
          | zero => exact absurd HA.out (by simp [portiereref04_Take.j1])
          | succ kj10 =>
            have H := HA.out
            clear HA
            simp only [portiereref04_Take.j1] at H
            by_cases c16 : x44_10 = true
            · subst c16
              have H1 : ((portiereref04_numeric.f kj10 a0 a1).bind fun bt158 => (some (bt158.1, bt158.2.1, bt158.2.2))) = some (r1, r2, r3) := by rw [if_pos rfl] at H; exact H
              clear H
              have H := H1
              clear H1
              replace H := Option.bind_eq_some_iff.mp H
              obtain ⟨⟨t158, t159, t160⟩, A170, H⟩ := H
              replace H : (some (t158, t159, t160)) = some (r1, r2, r3) := H
              have A17 := Aside0.mk A170
              clear A170
              simp only [Option.some.injEq, Prod.mk.injEq] at H
              obtain ⟨rfl, rfl, rfl⟩ := H
              go_wp2_with (first | ((with_reducible refine gate_callee (f := 22) rfl ?_); refine goesL_ (some 47) rfl rfl Try.func22 (by kernel_rfl) rfl #[.string a0, .int .i64 a1] rfl (by (try simp only [List.map_toArray, List.map_cons, List.map_nil]); first | done | rfl | (simp only [List.length_drop, List.length_take]; rfl)) ?_; (with_reducible refine (portiereref04_numeric.calls kj10 a0 a1 t158 t159 t160 _ A17.out).mono ?_); rintro e w18 ⟨rfl, hb⟩; refine ⟨_, rfl, ?_⟩; have n0_ := Aside0.mk (below_step (by repeat (first | (with_reducible first | exact HB.out | apply below_alloc | apply pw_below_drewN | apply below_drew1) | exact HB.out)) hb); clear HB; have HB := n0_; clear n0_; (try clear hb); (try clear hb2); (try clear hk); (try clear hi)))
              go_ret3
              exact ⟨by first | rfl | (simp [errW_none, errW_some] <;> rfl) | (simp [*, errW_none, errW_some] <;> rfl), by repeat (first | (with_reducible first | exact HB.out | apply below_alloc | apply pw_below_drewN | apply below_drew1) | exact HB.out)⟩
            · replace c16 := Bool.eq_false_iff.mpr c16
              subst c16
              have H1 : (portiereref04_Take.l0 kj10 a0 a1 a2 0 (⟨#[]⟩ : ByteArray) 0 0) = some (r1, r2, r3) := by rw [if_neg (show ¬ (false = true) by decide)] at H; exact H
              clear H
              have H := H1
              clear H1
              have H' := Aside0.mk H
              clear H
              go_wp2
              go_loopg [9, 10, 11, 12] kj10 (fun kq v9 v10 v11 v12 w' => ∃ (x9_3 : Int) (x10_3 : ByteArray) (x11_3 : Int) (x12_3 : Int), v9 = .int .i64 x9_3 ∧ v10 = .string x10_3 ∧ v11 = .int .u8 x11_3 ∧ v12 = .int .i64 x12_3 ∧ Aside0 (portiereref04_Take.l0 kq a0 a1 a2 x9_3 x10_3 x11_3 x12_3 = some (r1, r2, r3)) ∧ Aside0 (kq ≤ kj10) ∧ Aside0 (Below w.heap.size w w'))
              case atStart => exact ⟨(0), ((⟨#[]⟩ : ByteArray)), (0), (0), (by first | rfl | (simp; done) | (simp [*]; done)), (by first | rfl | (simp; done) | (simp [*]; done)), (by first | rfl | (simp; done) | (simp [*]; done)), (by first | rfl | (simp; done) | (simp [*]; done)), H', ⟨Nat.le_refl _⟩, ⟨by repeat (first | (with_reducible first | exact HB.out | apply below_alloc | apply pw_below_drewN | apply below_drew1) | exact HB.out)⟩⟩
              case round =>
                clear H'
                try clear c1
                try clear p1
                try clear q1
                try clear hx1
                try clear c2
                try clear p2
                try clear c5
                try clear c5b0
                try clear c6
                try clear c6b0
                try clear p6
                try clear c7
                try clear c7b0
                try clear c8
                try clear c8b0
                try clear p9
                try clear q9
                try clear hx9
                try clear c10
                try clear c12
                try clear c12b0
                try clear c14
                try clear c14b0
                try clear p15
                try clear q15
                try clear hx15
                try clear c16
                try clear c17
                try clear p1
                try clear p15
                try clear p2
                try clear p6
                try clear p9
                try clear q1
                try clear q15
                try clear q9
                obtain ⟨x9_3, x10_3, x11_3, x12_3, rfl, rfl, rfl, rfl, HA, HK3, HB⟩ := hrel
                cases gk with
                | zero => exact absurd HA.out (by simp [portiereref04_Take.l0])
                | succ k3 =>
                  have H := HA.out
                  clear HA
                  simp only [portiereref04_Take.l0] at H
                  by_cases c19 : x12_3 < 22
                  · rw [if_pos c19] at H
                    have c19b0 : decide (x12_3 < 22) = true := decide_eq_true c19
                    clear c19
                    replace H := Option.bind_eq_some_iff.mp H
                    obtain ⟨⟨t161, t162, t163⟩, A200, H⟩ := H
                    replace H : ((portiereref04_starts.f a0 (wrap64 (a1 + 1)) t162).bind fun t164 => (if t164 = true then ((portiereref04_starts.f a0 (wrap64 (a1 + (wrap64 (1 + (t162.size : Int))))) (⟨#[59]⟩ : ByteArray)).bind fun t165 => (if t165 = true then (portiereref04_Take.j3 k3 a0 a1 a2 x9_3 x10_3 x11_3 x12_3 t161 t163 (wrap64 ((wrap64 (1 + (t162.size : Int))) + 1)) t165) else (portiereref04_Take.j3 k3 a0 a1 a2 x9_3 x10_3 x11_3 x12_3 t161 t163 (wrap64 (1 + (t162.size : Int))) t165))) else (portiereref04_Take.l0 k3 a0 a1 a2 x9_3 x10_3 x11_3 (wrap64 (x12_3 + 1))))) = some (r1, r2, r3) := H
                    have A20 := Aside0.mk A200
                    clear A200
                    replace H := Option.bind_eq_some_iff.mp H
                    obtain ⟨t164, A210, H⟩ := H
                    replace H : (if t164 = true then ((portiereref04_starts.f a0 (wrap64 (a1 + (wrap64 (1 + (t162.size : Int))))) (⟨#[59]⟩ : ByteArray)).bind fun t165 => (if t165 = true then (portiereref04_Take.j3 k3 a0 a1 a2 x9_3 x10_3 x11_3 x12_3 t161 t163 (wrap64 ((wrap64 (1 + (t162.size : Int))) + 1)) t165) else (portiereref04_Take.j3 k3 a0 a1 a2 x9_3 x10_3 x11_3 x12_3 t161 t163 (wrap64 (1 + (t162.size : Int))) t165))) else (portiereref04_Take.l0 k3 a0 a1 a2 x9_3 x10_3 x11_3 (wrap64 (x12_3 + 1)))) = some (r1, r2, r3) := H
                    have A21 := Aside0.mk A210
                    clear A210
                    by_cases c22 : t164 = true
                    · subst c22
                      have H1 : ((portiereref04_starts.f a0 (wrap64 (a1 + (wrap64 (1 + (t162.size : Int))))) (⟨#[59]⟩ : ByteArray)).bind fun t165 => (if t165 = true then (portiereref04_Take.j3 k3 a0 a1 a2 x9_3 x10_3 x11_3 x12_3 t161 t163 (wrap64 ((wrap64 (1 + (t162.size : Int))) + 1)) t165) else (portiereref04_Take.j3 k3 a0 a1 a2 x9_3 x10_3 x11_3 x12_3 t161 t163 (wrap64 (1 + (t162.size : Int))) t165))) = some (r1, r2, r3) := by rw [if_pos rfl] at H; exact H
                      clear H
                      have H := H1
                      clear H1
                      replace H := Option.bind_eq_some_iff.mp H
                      obtain ⟨t165, A230, H⟩ := H
                      replace H : (if t165 = true then (portiereref04_Take.j3 k3 a0 a1 a2 x9_3 x10_3 x11_3 x12_3 t161 t163 (wrap64 ((wrap64 (1 + (t162.size : Int))) + 1)) t165) else (portiereref04_Take.j3 k3 a0 a1 a2 x9_3 x10_3 x11_3 x12_3 t161 t163 (wrap64 (1 + (t162.size : Int))) t165)) = some (r1, r2, r3) := H
                      have A23 := Aside0.mk A230
                      clear A230
                      have HC24 := Aside0.mk H
                      clear H
                      go_upto_if 75 with (first | ((with_reducible refine gate_callee (f := 23) rfl ?_); refine goesL_ (some 57) rfl rfl Try.func23 (by kernel_rfl) rfl #[.int .i64 x12_3] rfl (by (try simp only [List.map_toArray, List.map_cons, List.map_nil]); first | done | rfl | (simp only [List.length_drop, List.length_take]; rfl)) ?_; (with_reducible refine (portiereref04_code.calls x12_3 t161 t162 t163 _ A20.out).mono ?_); rintro e w25 ⟨rfl, hb⟩; refine ⟨_, rfl, ?_⟩; have n0_ := Aside0.mk (below_step (by repeat (first | (with_reducible first | exact HB.out | apply below_alloc | apply pw_below_drewN | apply below_drew1) | exact HB.out)) hb); clear HB; have HB := n0_; clear n0_; (try clear hb); (try clear hb2); (try clear hk); (try clear hi)) | ((with_reducible refine gate_callee (f := 24) rfl ?_); refine goesL_ (some 65) rfl rfl Try.func24 (by kernel_rfl) rfl #[.string a0, .int .i64 (wrap64 (a1 + 1)), .string t162] rfl (by (try simp only [List.map_toArray, List.map_cons, List.map_nil]); first | done | rfl | (simp only [List.length_drop, List.length_take]; rfl)) ?_; (with_reducible refine (portiereref04_starts.calls a0 (wrap64 (a1 + 1)) t162 true _ A21.out).mono ?_); rintro e w' ⟨rfl, ⟨nd, rfl⟩⟩; refine ⟨_, rfl, ?_⟩) | ((with_reducible refine gate_callee (f := 24) rfl ?_); refine goesL_ (some 74) rfl rfl Try.func24 (by kernel_rfl) rfl #[.string a0, .int .i64 (wrap64 (a1 + (wrap64 (1 + (t162.size : Int))))), .string (⟨#[59]⟩ : ByteArray)] rfl (by (try simp only [List.map_toArray, List.map_cons, List.map_nil]); first | done | rfl | (simp only [List.length_drop, List.length_take]; rfl)) ?_; (with_reducible refine (portiereref04_starts.calls a0 (wrap64 (a1 + (wrap64 (1 + (t162.size : Int))))) (⟨#[59]⟩ : ByteArray) t165 _ A23.out).mono ?_); rintro e w' ⟨rfl, ⟨nd, rfl⟩⟩; refine ⟨_, rfl, ?_⟩))
                      (try simp only [Act.put, List.setIfInBounds_toArray, List.set_cons_zero, List.set_cons_succ])
                      go_cut [16] (fun v16 wc => ∃ (kq : Nat) (x16_23 : Int), v16 = .int .i64 x16_23 ∧ Aside0 (portiereref04_Take.j3 kq a0 a1 a2 x9_3 x10_3 x11_3 x12_3 t161 t163 x16_23 t165 = some (r1, r2, r3)) ∧ Aside0 (kq ≤ k3) ∧ Aside0 (Below w.heap.size w wc))
                      case first =>
                        have H := HC24.out
                        clear HC24
                        by_cases c26 : t165 = true
                        · subst c26
                          have H1 : (portiereref04_Take.j3 k3 a0 a1 a2 x9_3 x10_3 x11_3 x12_3 t161 t163 (wrap64 ((wrap64 (1 + (t162.size : Int))) + 1)) true) = some (r1, r2, r3) := by rw [if_pos rfl] at H; exact H
                          clear H
                          have H := H1
                          clear H1
                          have H' := Aside0.mk H
                          clear H
                          go_wp2
                          go_meet
                          case rel => exact ⟨_, (wrap64 ((wrap64 (1 + (t162.size : Int))) + 1)), (by first | rfl | (simp; done) | (simp [*]; done)), H', ⟨by have := HJ3.out; have := HJ10.out; have := HK3.out; first | omega | exact Nat.le_refl _⟩, ⟨by repeat (first | (with_reducible first | exact HB.out | apply below_alloc | apply pw_below_drewN | apply below_drew1) | exact HB.out)⟩⟩
                        · replace c26 := Bool.eq_false_iff.mpr c26
                          subst c26
                          have H1 : (portiereref04_Take.j3 k3 a0 a1 a2 x9_3 x10_3 x11_3 x12_3 t161 t163 (wrap64 (1 + (t162.size : Int))) false) = some (r1, r2, r3) := by rw [if_neg (show ¬ (false = true) by decide)] at H; exact H
                          clear H
                          have H := H1
                          clear H1
                          have H' := Aside0.mk H
                          clear H
                          go_wp2
                          go_meet
                          case rel => exact ⟨_, (wrap64 (1 + (t162.size : Int))), (by first | rfl | (simp; done) | (simp [*]; done)), H', ⟨by have := HJ3.out; have := HJ10.out; have := HK3.out; first | omega | exact Nat.le_refl _⟩, ⟨by repeat (first | (with_reducible first | exact HB.out | apply below_alloc | apply pw_below_drewN | apply below_drew1) | exact HB.out)⟩⟩
                      case rest =>
                        clear HC24
                        try clear c1
                        try clear p1
                        try clear q1
                        try clear hx1
                        try clear c2
                        try clear p2
                        try clear c5
                        try clear c5b0
                        try clear c6
                        try clear c6b0
                        try clear p6
                        try clear c7
                        try clear c7b0
                        try clear c8
                        try clear c8b0
                        try clear p9
                        try clear q9
                        try clear hx9
                        try clear c10
                        try clear c12
                        try clear c12b0
                        try clear c14
                        try clear c14b0
                        try clear p15
                        try clear q15
                        try clear hx15
                        try clear c16
                        try clear c17
                        try clear c19
                        try clear c19b0
                        try clear c22
                        try clear c23
                        try clear c24
                        try clear c26
                        try clear p1
                        try clear p15
                        try clear p2
                        try clear p6
                        try clear p9
                        try clear q1
                        try clear q15
                        try clear q9
                        obtain ⟨kq, x16_23, rfl, HA, HJ23, HB⟩ := hcut
                        cases kq with
                        | zero => exact absurd HA.out (by simp [portiereref04_Take.j3])
                        | succ kj23 =>
                          have H := HA.out
                          clear HA
                          simp only [portiereref04_Take.j3] at H
                          have HC27 := Aside0.mk H
                          clear H
                          go_upto_region 17 with (fail)
                          go_cut [86] (fun v86 wc => ∃ (kq : Nat) (x86_26 : Bool), v86 = .bool x86_26 ∧ Aside0 (portiereref04_Take.j4 kq a0 a1 a2 x9_3 x10_3 x11_3 x12_3 t161 x16_23 t165 x86_26 = some (r1, r2, r3)) ∧ Aside0 (kq ≤ kj23) ∧ Aside0 (Below w.heap.size w wc))
                          case first =>
                            have H := HC27.out
                            clear HC27
                            by_cases c28 : x16_23 > x9_3
                            · rw [if_pos c28] at H
                              have c28b0 : decide (x9_3 < x16_23) = true := decide_eq_true c28
                              clear c28
                              (first | rw [c28b0] | (simp only [i64_w, i32_w]; rw [c28b0]) | skip)
                              by_cases c29 : t165 = true
                              · subst c29
                                have H1 : (portiereref04_Take.j4 kj23 a0 a1 a2 x9_3 x10_3 x11_3 x12_3 t161 x16_23 true true) = some (r1, r2, r3) := by rw [if_pos rfl] at H; exact H
                                clear H
                                have H := H1
                                clear H1
                                have H' := Aside0.mk H
                                clear H
                                go_wp2
                                go_meet
                                case rel => exact ⟨_, (true), (by first | rfl | (simp; done) | (simp [*]; done)), H', ⟨by have := HJ3.out; have := HJ10.out; have := HK3.out; have := HJ23.out; first | omega | exact Nat.le_refl _⟩, ⟨by repeat (first | (with_reducible first | exact HB.out | apply below_alloc | apply pw_below_drewN | apply below_drew1) | exact HB.out)⟩⟩
                              · replace c29 := Bool.eq_false_iff.mpr c29
                                subst c29
                                have H1 : (portiereref04_Take.j4 kj23 a0 a1 a2 x9_3 x10_3 x11_3 x12_3 t161 x16_23 false t163) = some (r1, r2, r3) := by rw [if_neg (show ¬ (false = true) by decide)] at H; exact H
                                clear H
                                have H := H1
                                clear H1
                                have H' := Aside0.mk H
                                clear H
                                go_wp2
                                go_meet
                                case rel => exact ⟨_, (t163), (by first | rfl | (simp; done) | (simp [*]; done)), H', ⟨by have := HJ3.out; have := HJ10.out; have := HK3.out; have := HJ23.out; first | omega | exact Nat.le_refl _⟩, ⟨by repeat (first | (with_reducible first | exact HB.out | apply below_alloc | apply pw_below_drewN | apply below_drew1) | exact HB.out)⟩⟩
                            · rw [if_neg c28] at H
                              have c28b0 : decide (x9_3 < x16_23) = false := decide_eq_false c28
                              clear c28
                              (first | rw [c28b0] | (simp only [i64_w, i32_w]; rw [c28b0]) | skip)
                              have H' := Aside0.mk H
                              clear H
                              go_wp2
                              go_meet
                              case rel => exact ⟨_, (false), (by first | rfl | (simp; done) | (simp [*]; done)), H', ⟨by have := HJ3.out; have := HJ10.out; have := HK3.out; have := HJ23.out; first | omega | exact Nat.le_refl _⟩, ⟨by repeat (first | (with_reducible first | exact HB.out | apply below_alloc | apply pw_below_drewN | apply below_drew1) | exact HB.out)⟩⟩
                          case rest =>
                            clear HC27
                            try clear c1
                            try clear p1
                            try clear q1
                            try clear hx1
                            try clear c2
                            try clear p2
                            try clear c5
                            try clear c5b0
                            try clear c6
                            try clear c6b0
                            try clear p6
                            try clear c7
                            try clear c7b0
                            try clear c8
                            try clear c8b0
                            try clear p9
                            try clear q9
                            try clear hx9
                            try clear c10
                            try clear c12
                            try clear c12b0
                            try clear c14
                            try clear c14b0
                            try clear p15
                            try clear q15
                            try clear hx15
                            try clear c16
                            try clear c17
                            try clear c19
                            try clear c19b0
                            try clear c22
                            try clear c23
                            try clear c24
                            try clear c26
                            try clear c28
                            try clear c28b0
                            try clear c29
                            try clear p1
                            try clear p15
                            try clear p2
                            try clear p6
                            try clear p9
                            try clear q1
                            try clear q15
                            try clear q9
                            obtain ⟨kq, x86_26, rfl, HA, HJ26, HB⟩ := hcut
                            cases kq with
                            | zero => exact absurd HA.out (by simp [portiereref04_Take.j4])
                            | succ kj26 =>
                              have H := HA.out
                              clear HA
                              simp only [portiereref04_Take.j4] at H
                              by_cases c30 : x86_26 = true
                              · subst c30
                                have H1 : ((some (([t161] : List Int) : List Int)).bind fun y166 => (if t165 = true then (portiereref04_Take.l0 kj26 a0 a1 a2 x16_23 (runesBytes y166) 0 (wrap64 (x12_3 + 1))) else (portiereref04_Take.l0 kj26 a0 a1 a2 x16_23 (runesBytes y166) 1 (wrap64 (x12_3 + 1))))) = some (r1, r2, r3) := by rw [if_pos rfl] at H; exact H
                                clear H
                                have H := H1
                                clear H1
                                obtain ⟨y166, hy166⟩ : ∃ y_ : List Int, y_ = (([t161] : List Int)) := ⟨_, rfl⟩
                                replace H : (if t165 = true then (portiereref04_Take.l0 kj26 a0 a1 a2 x16_23 (runesBytes y166) 0 (wrap64 (x12_3 + 1))) else (portiereref04_Take.l0 kj26 a0 a1 a2 x16_23 (runesBytes y166) 1 (wrap64 (x12_3 + 1)))) = some (r1, r2, r3) := by first | (rw [hy166]; with_reducible exact H) | (have H2_ := (Option.bind_some _ _).symm.trans H; rw [hy166]; with_reducible exact H2_) | (have H2_ := (Option.bind_some _ _).symm.trans H; with_reducible exact H2_) | with_reducible exact H | (rw [hy166]; exact H) | exact H
                                have Ny166 := Aside0.mk hy166
                                clear hy166
                                by_cases c31 : t165 = true
                                · subst c31
                                  have H1 : (portiereref04_Take.l0 kj26 a0 a1 a2 x16_23 (runesBytes y166) 0 (wrap64 (x12_3 + 1))) = some (r1, r2, r3) := by rw [if_pos rfl] at H; exact H
                                  clear H
                                  have H := H1
                                  clear H1
                                  have H' := Aside0.mk H
                                  clear H
                                  go_wp2_with (first | ((with_reducible refine gate_dst (N := 89) rfl ?_); (try (refine gate_guard (by rfl) ?_; dsimp only)); refine Kd.R_lit (Kd.int .i32) _ 21 ?hg (N := 89) ?hd (xs := ([t161] : List Int)) (inner := [.int .i32 t161]) (ok := fun _ => True) (okp := fun _ => True) ?hr ?hp (fun _ hk => hk) trivial (Below.refl _ _) (Nat.le_refl _) (by simp) ?_; (case hd => rfl); (case hg => rfl); (case hr => first | (go_simp; done) | (go_simp; rfl)); (case hp => exact (Reps.one (show Kd.M (Kd.int .i32) _ _ _ t161 [.int .i32 t161] from rfl) (Reps.none _ _))); intro v167 w32 ho33 hb hg_ hnew_; clear hg_ hnew_; (first | rw [← Ny166.out] at ho33 | (simp only [Int.reduceToNat] at ho33; rw [← Ny166.out] at ho33)); have n0_ := Aside0.mk (Kd.R_lower ho33 (below_size (by repeat (first | (with_reducible first | exact HB.out | apply below_alloc | apply pw_below_drewN | apply below_drew1) | exact HB.out)))); have n1_ := Aside0.mk (below_step (by repeat (first | (with_reducible first | exact HB.out | apply below_alloc | apply pw_below_drewN | apply below_drew1) | exact HB.out)) hb); clear HB; have HO168 := n0_; have HB := n1_; clear n0_ n1_; clear hb ho33; have hcv34 := own_runes (P := Try.prog) Try.underlying55 Try.underlying21 Try.underlying9 (Kd.own_of_R HO168.out)))
                                  go_roundg kj26
                                  case measure => have := HJ3.out; have := HJ10.out; have := HK3.out; have := HJ23.out; have := HJ26.out; omega
                                  case rel => exact ⟨(x16_23), (runesBytes y166), (0), (wrap64 (x12_3 + 1)), (by first | rfl | (simp; done) | (simp [*]; done)), (by first | rfl | (simp; done) | (simp [*]; done)), (by first | rfl | (simp; done) | (simp [*]; done)), (by first | rfl | (simp; done) | (simp [*]; done)), H', ⟨by have := HJ3.out; have := HJ10.out; have := HK3.out; have := HJ23.out; have := HJ26.out; omega⟩, ⟨by repeat (first | (with_reducible first | exact HB.out | apply below_alloc | apply pw_below_drewN | apply below_drew1) | exact HB.out)⟩⟩
                                · replace c31 := Bool.eq_false_iff.mpr c31
                                  subst c31
                                  have H1 : (portiereref04_Take.l0 kj26 a0 a1 a2 x16_23 (runesBytes y166) 1 (wrap64 (x12_3 + 1))) = some (r1, r2, r3) := by rw [if_neg (show ¬ (false = true) by decide)] at H; exact H
                                  clear H
                                  have H := H1
                                  clear H1
                                  have H' := Aside0.mk H
                                  clear H
                                  go_wp2_with (first | ((with_reducible refine gate_dst (N := 89) rfl ?_); (try (refine gate_guard (by rfl) ?_; dsimp only)); refine Kd.R_lit (Kd.int .i32) _ 21 ?hg (N := 89) ?hd (xs := ([t161] : List Int)) (inner := [.int .i32 t161]) (ok := fun _ => True) (okp := fun _ => True) ?hr ?hp (fun _ hk => hk) trivial (Below.refl _ _) (Nat.le_refl _) (by simp) ?_; (case hd => rfl); (case hg => rfl); (case hr => first | (go_simp; done) | (go_simp; rfl)); (case hp => exact (Reps.one (show Kd.M (Kd.int .i32) _ _ _ t161 [.int .i32 t161] from rfl) (Reps.none _ _))); intro v167 w35 ho36 hb hg_ hnew_; clear hg_ hnew_; (first | rw [← Ny166.out] at ho36 | (simp only [Int.reduceToNat] at ho36; rw [← Ny166.out] at ho36)); have n0_ := Aside0.mk (Kd.R_lower ho36 (below_size (by repeat (first | (with_reducible first | exact HB.out | apply below_alloc | apply pw_below_drewN | apply below_drew1) | exact HB.out)))); have n1_ := Aside0.mk (below_step (by repeat (first | (with_reducible first | exact HB.out | apply below_alloc | apply pw_below_drewN | apply below_drew1) | exact HB.out)) hb); clear HB; have HO168 := n0_; have HB := n1_; clear n0_ n1_; clear hb ho36; have hcv37 := own_runes (P := Try.prog) Try.underlying55 Try.underlying21 Try.underlying9 (Kd.own_of_R HO168.out)))
                                  go_roundg kj26
                                  case measure => have := HJ3.out; have := HJ10.out; have := HK3.out; have := HJ23.out; have := HJ26.out; omega
                                  case rel => exact ⟨(x16_23), (runesBytes y166), (1), (wrap64 (x12_3 + 1)), (by first | rfl | (simp; done) | (simp [*]; done)), (by first | rfl | (simp; done) | (simp [*]; done)), (by first | rfl | (simp; done) | (simp [*]; done)), (by first | rfl | (simp; done) | (simp [*]; done)), H', ⟨by have := HJ3.out; have := HJ10.out; have := HK3.out; have := HJ23.out; have := HJ26.out; omega⟩, ⟨by repeat (first | (with_reducible first | exact HB.out | apply below_alloc | apply pw_below_drewN | apply below_drew1) | exact HB.out)⟩⟩
                              · replace c30 := Bool.eq_false_iff.mpr c30
                                subst c30
                                have H1 : (portiereref04_Take.l0 kj26 a0 a1 a2 x9_3 x10_3 x11_3 (wrap64 (x12_3 + 1))) = some (r1, r2, r3) := by rw [if_neg (show ¬ (false = true) by decide)] at H; exact H
                                clear H
                                have H := H1
                                clear H1
                                have H' := Aside0.mk H
                                clear H
                                go_wp2
                                go_roundg kj26
                                case measure => have := HJ3.out; have := HJ10.out; have := HK3.out; have := HJ23.out; have := HJ26.out; omega
                                case rel => exact ⟨(x9_3), (x10_3), (x11_3), (wrap64 (x12_3 + 1)), (by first | rfl | (simp; done) | (simp [*]; done)), (by first | rfl | (simp; done) | (simp [*]; done)), (by first | rfl | (simp; done) | (simp [*]; done)), (by first | rfl | (simp; done) | (simp [*]; done)), H', ⟨by have := HJ3.out; have := HJ10.out; have := HK3.out; have := HJ23.out; have := HJ26.out; omega⟩, ⟨by repeat (first | (with_reducible first | exact HB.out | apply below_alloc | apply pw_below_drewN | apply below_drew1) | exact HB.out)⟩⟩
                    · replace c22 := Bool.eq_false_iff.mpr c22
                      subst c22
                      have H1 : (portiereref04_Take.l0 k3 a0 a1 a2 x9_3 x10_3 x11_3 (wrap64 (x12_3 + 1))) = some (r1, r2, r3) := by rw [if_neg (show ¬ (false = true) by decide)] at H; exact H
                      clear H
                      have H := H1
                      clear H1
                      have H' := Aside0.mk H
                      clear H
                      go_wp2_with (first | ((with_reducible refine gate_callee (f := 23) rfl ?_); refine goesL_ (some 57) rfl rfl Try.func23 (by kernel_rfl) rfl #[.int .i64 x12_3] rfl (by (try simp only [List.map_toArray, List.map_cons, List.map_nil]); first | done | rfl | (simp only [List.length_drop, List.length_take]; rfl)) ?_; (with_reducible refine (portiereref04_code.calls x12_3 t161 t162 t163 _ A20.out).mono ?_); rintro e w38 ⟨rfl, hb⟩; refine ⟨_, rfl, ?_⟩; have n0_ := Aside0.mk (below_step (by repeat (first | (with_reducible first | exact HB.out | apply below_alloc | apply pw_below_drewN | apply below_drew1) | exact HB.out)) hb); clear HB; have HB := n0_; clear n0_; (try clear hb); (try clear hb2); (try clear hk); (try clear hi)) | ((with_reducible refine gate_callee (f := 24) rfl ?_); refine goesL_ (some 65) rfl rfl Try.func24 (by kernel_rfl) rfl #[.string a0, .int .i64 (wrap64 (a1 + 1)), .string t162] rfl (by (try simp only [List.map_toArray, List.map_cons, List.map_nil]); first | done | rfl | (simp only [List.length_drop, List.length_take]; rfl)) ?_; (with_reducible refine (portiereref04_starts.calls a0 (wrap64 (a1 + 1)) t162 false _ A21.out).mono ?_); rintro e w' ⟨rfl, ⟨nd, rfl⟩⟩; refine ⟨_, rfl, ?_⟩))
                      go_roundg k3
                      case measure => have := HJ3.out; have := HJ10.out; have := HK3.out; omega
                      case rel => exact ⟨(x9_3), (x10_3), (x11_3), (wrap64 (x12_3 + 1)), (by first | rfl | (simp; done) | (simp [*]; done)), (by first | rfl | (simp; done) | (simp [*]; done)), (by first | rfl | (simp; done) | (simp [*]; done)), (by first | rfl | (simp; done) | (simp [*]; done)), H', ⟨by have := HJ3.out; have := HJ10.out; have := HK3.out; omega⟩, ⟨by repeat (first | (with_reducible first | exact HB.out | apply below_alloc | apply pw_below_drewN | apply below_drew1) | exact HB.out)⟩⟩
                  · rw [if_neg c19] at H
                    have c19b0 : decide (x12_3 < 22) = false := decide_eq_false c19
                    clear c19
                    have HC39 := Aside0.mk H
                    clear H
                    go_upto_region 23 with (fail)
                    go_cut [104] (fun v104 wc => ∃ (kq : Nat) (x104_38 : Bool), v104 = .bool x104_38 ∧ Aside0 (portiereref04_Take.j5 kq a0 a1 x9_3 x10_3 x11_3 x104_38 = some (r1, r2, r3)) ∧ Aside0 (kq ≤ k3) ∧ Aside0 (Below w.heap.size w wc))
                    case first =>
                      have H := HC39.out
                      clear HC39
                      by_cases c40 : x11_3 = 0
                      · rw [if_pos c40] at H
                        have c40b0 : (x11_3 == 0) = true := beq_iff_eq.mpr c40
                        have c40b1 : (x11_3 != 0) = false := bne_eq_false_iff_eq.mpr c40
                        clear c40
                        (first | rw [c40b0] | (simp only [i64_w, i32_w]; rw [c40b0]) | skip)
                        have H' := Aside0.mk H
                        clear H
                        go_wp2
                        go_meet
                        case rel => exact ⟨_, (false), (by first | rfl | (simp; done) | (simp [*]; done)), H', ⟨by have := HJ3.out; have := HJ10.out; have := HK3.out; first | omega | exact Nat.le_refl _⟩, ⟨by repeat (first | (with_reducible first | exact HB.out | apply below_alloc | apply pw_below_drewN | apply below_drew1) | exact HB.out)⟩⟩
                      · rw [if_neg c40] at H
                        have c40b0 : (x11_3 == 0) = false := beq_eq_false_iff_ne.mpr c40
                        have c40b1 : (x11_3 != 0) = true := bne_iff_ne.mpr c40
                        (first | rw [c40b0] | (simp only [i64_w, i32_w]; rw [c40b0]) | skip)
                        by_cases c41 : a2 = true
                        · subst c41
                          have H1 : (portiereref04_Take.j5 k3 a0 a1 x9_3 x10_3 x11_3 (decide ((wrap64 (a1 + x9_3)) < (a0.size : Int)))) = some (r1, r2, r3) := by rw [if_pos rfl] at H; exact H
                          clear H
                          have H := H1
                          clear H1
                          have H' := Aside0.mk H
                          clear H
                          go_wp2
                          go_meet
                          case rel => exact ⟨_, (decide ((wrap64 (a1 + x9_3)) < (a0.size : Int))), (by first | rfl | (simp; done) | (simp [*]; done)), H', ⟨by have := HJ3.out; have := HJ10.out; have := HK3.out; first | omega | exact Nat.le_refl _⟩, ⟨by repeat (first | (with_reducible first | exact HB.out | apply below_alloc | apply pw_below_drewN | apply below_drew1) | exact HB.out)⟩⟩
                        · replace c41 := Bool.eq_false_iff.mpr c41
                          subst c41
                          have H1 : (portiereref04_Take.j5 k3 a0 a1 x9_3 x10_3 x11_3 false) = some (r1, r2, r3) := by rw [if_neg (show ¬ (false = true) by decide)] at H; exact H
                          clear H
                          have H := H1
                          clear H1
                          have H' := Aside0.mk H
                          clear H
                          go_wp2
                          go_meet
                          case rel => exact ⟨_, (false), (by first | rfl | (simp; done) | (simp [*]; done)), H', ⟨by have := HJ3.out; have := HJ10.out; have := HK3.out; first | omega | exact Nat.le_refl _⟩, ⟨by repeat (first | (with_reducible first | exact HB.out | apply below_alloc | apply pw_below_drewN | apply below_drew1) | exact HB.out)⟩⟩
                    case rest =>
                      clear HC39
                      try clear c1
                      try clear p1
                      try clear q1
                      try clear hx1
                      try clear c2
                      try clear p2
                      try clear c3
                      try clear hcv3
                      try clear c4
                      try clear c5
                      try clear c5b0
                      try clear c6
                      try clear c6b0
                      try clear p6
                      try clear c7
                      try clear c7b0
                      try clear c8
                      try clear c8b0
                      try clear p9
                      try clear q9
                      try clear hx9
                      try clear c10
                      try clear c12
                      try clear c12b0
                      try clear c14
                      try clear c14b0
                      try clear p15
                      try clear q15
                      try clear hx15
                      try clear c16
                      try clear c17
                      try clear c19
                      try clear c19b0
                      try clear c22
                      try clear c23
                      try clear c24
                      try clear c26
                      try clear c28
                      try clear c28b0
                      try clear c29
                      try clear c30
                      try clear c31
                      try clear hcv34
                      try clear hcv37
                      try clear c40
                      try clear c40b0
                      try clear c40b1
                      try clear c41
                      try clear p1
                      try clear p15
                      try clear p2
                      try clear p6
                      try clear p9
                      try clear q1
                      try clear q15
                      try clear q9
                      obtain ⟨kq, x104_38, rfl, HA, HJ38, HB⟩ := hcut
                      cases kq with
                      | zero => exact absurd HA.out (by simp [portiereref04_Take.j5])
                      | succ kj38 =>
                        have H := HA.out
                        clear HA
                        simp only [portiereref04_Take.j5] at H
                        by_cases c42 : x104_38 = true
                        · subst c42
                          have H1 : (if 0 ≤ (wrap64 (a1 + x9_3)) then (if (wrap64 (a1 + x9_3)) < (a0.size : Int) then (if (bt a0 (wrap64 (a1 + x9_3))) = 61 then (some ((⟨#[]⟩ : ByteArray), 0, 0)) else (if (bt a0 (wrap64 (a1 + x9_3))) ≥ 97 then (if (bt a0 (wrap64 (a1 + x9_3))) ≤ 122 then (some ((⟨#[]⟩ : ByteArray), 0, 0)) else (if (bt a0 (wrap64 (a1 + x9_3))) ≥ 65 then (if (bt a0 (wrap64 (a1 + x9_3))) ≤ 90 then (some ((⟨#[]⟩ : ByteArray), 0, 0)) else (if (bt a0 (wrap64 (a1 + x9_3))) ≥ 48 then (if (bt a0 (wrap64 (a1 + x9_3))) ≤ 57 then (some ((⟨#[]⟩ : ByteArray), 0, 0)) else (some (x10_3, x9_3, x11_3))) else (some (x10_3, x9_3, x11_3)))) else (if (bt a0 (wrap64 (a1 + x9_3))) ≥ 48 then (if (bt a0 (wrap64 (a1 + x9_3))) ≤ 57 then (some ((⟨#[]⟩ : ByteArray), 0, 0)) else (some (x10_3, x9_3, x11_3))) else (some (x10_3, x9_3, x11_3))))) else (if (bt a0 (wrap64 (a1 + x9_3))) ≥ 65 then (if (bt a0 (wrap64 (a1 + x9_3))) ≤ 90 then (some ((⟨#[]⟩ : ByteArray), 0, 0)) else (if (bt a0 (wrap64 (a1 + x9_3))) ≥ 48 then (if (bt a0 (wrap64 (a1 + x9_3))) ≤ 57 then (some ((⟨#[]⟩ : ByteArray), 0, 0)) else (some (x10_3, x9_3, x11_3))) else (some (x10_3, x9_3, x11_3)))) else (if (bt a0 (wrap64 (a1 + x9_3))) ≥ 48 then (if (bt a0 (wrap64 (a1 + x9_3))) ≤ 57 then (some ((⟨#[]⟩ : ByteArray), 0, 0)) else (some (x10_3, x9_3, x11_3))) else (some (x10_3, x9_3, x11_3)))))) else (none)) else (none)) = some (r1, r2, r3) := by rw [if_pos rfl] at H; exact H
                          clear H
                          have H := H1
                          clear H1
                          obtain ⟨ji43, hji43⟩ : ∃ j_ : Int, (wrap64 (a1 + x9_3)) = j_ := ⟨_, rfl⟩
                          replace H : (if 0 ≤ (ji43) then (if (ji43) < (a0.size : Int) then (if (bt a0 (ji43)) = 61 then (some ((⟨#[]⟩ : ByteArray), 0, 0)) else (if (bt a0 (ji43)) ≥ 97 then (if (bt a0 (ji43)) ≤ 122 then (some ((⟨#[]⟩ : ByteArray), 0, 0)) else (if (bt a0 (ji43)) ≥ 65 then (if (bt a0 (ji43)) ≤ 90 then (some ((⟨#[]⟩ : ByteArray), 0, 0)) else (if (bt a0 (ji43)) ≥ 48 then (if (bt a0 (ji43)) ≤ 57 then (some ((⟨#[]⟩ : ByteArray), 0, 0)) else (some (x10_3, x9_3, x11_3))) else (some (x10_3, x9_3, x11_3)))) else (if (bt a0 (ji43)) ≥ 48 then (if (bt a0 (ji43)) ≤ 57 then (some ((⟨#[]⟩ : ByteArray), 0, 0)) else (some (x10_3, x9_3, x11_3))) else (some (x10_3, x9_3, x11_3))))) else (if (bt a0 (ji43)) ≥ 65 then (if (bt a0 (ji43)) ≤ 90 then (some ((⟨#[]⟩ : ByteArray), 0, 0)) else (if (bt a0 (ji43)) ≥ 48 then (if (bt a0 (ji43)) ≤ 57 then (some ((⟨#[]⟩ : ByteArray), 0, 0)) else (some (x10_3, x9_3, x11_3))) else (some (x10_3, x9_3, x11_3)))) else (if (bt a0 (ji43)) ≥ 48 then (if (bt a0 (ji43)) ≤ 57 then (some ((⟨#[]⟩ : ByteArray), 0, 0)) else (some (x10_3, x9_3, x11_3))) else (some (x10_3, x9_3, x11_3)))))) else (none)) else (none)) = some (r1, r2, r3) := by first | (rw [hji43] at H; exact H) | (simp only [hji43] at H ⊢; exact H)
                          have hji43w : (IntKind.i64.wrap (a1 + x9_3)) = ji43 := (i64_w _).trans hji43
                          by_cases c44 : 0 ≤ (ji43)
                          · rw [if_pos c44] at H
                            have c44b0 : decide (0 ≤ (ji43)) = true := decide_eq_true c44
                            clear c44
                            by_cases c45 : (ji43) < (a0.size : Int)
                            · rw [if_pos c45] at H
                              have c45b0 : decide ((ji43) < (a0.size : Int)) = true := decide_eq_true c45
                              clear c45
                              by_cases c47 : (bt a0 (ji43)) = 61
                              · rw [if_pos c47] at H
                                have c47b0 : ((bt a0 (ji43)) == 61) = true := beq_iff_eq.mpr c47
                                have c47b1 : ((bt a0 (ji43)) != 61) = false := bne_eq_false_iff_eq.mpr c47
                                clear c47
                                simp only [Option.some.injEq, Prod.mk.injEq] at H
                                obtain ⟨rfl, rfl, rfl⟩ := H
                                have p46 : 0 ≤ ((ji43) : Int) := of_decide_eq_true (by first | (with_reducible assumption) | assumption)
                                have q46 : (ji43) < (a0.size : Int) := of_decide_eq_true (by first | (with_reducible assumption) | assumption)
                                have hx46 := bt_at a0 (ji43)
                                replace p46 := eq_true p46
                                replace q46 := eq_true q46
                                go_wp2
                                go_ret3
                                exact ⟨by first | rfl | (simp [errW_none, errW_some] <;> rfl) | (simp only [← hji43]; first | rfl | (simp [errW_none, errW_some] <;> rfl)) | (simp [*, errW_none, errW_some] <;> rfl), by repeat (first | (with_reducible first | exact HB.out | apply below_alloc | apply pw_below_drewN | apply below_drew1) | exact HB.out)⟩
                              · rw [if_neg c47] at H
                                have c47b0 : ((bt a0 (ji43)) == 61) = false := beq_eq_false_iff_ne.mpr c47
                                have c47b1 : ((bt a0 (ji43)) != 61) = true := bne_iff_ne.mpr c47
                                by_cases c48 : (bt a0 (ji43)) ≥ 97
                                · rw [if_pos c48] at H
                                  have c48b0 : decide (97 ≤ (bt a0 (ji43))) = true := decide_eq_true c48
                                  clear c48
                                  by_cases c49 : (bt a0 (ji43)) ≤ 122
                                  · rw [if_pos c49] at H
                                    have c49b0 : decide ((bt a0 (ji43)) ≤ 122) = true := decide_eq_true c49
                                    clear c49
                                    simp only [Option.some.injEq, Prod.mk.injEq] at H
                                    obtain ⟨rfl, rfl, rfl⟩ := H
                                    have p46 : 0 ≤ ((ji43) : Int) := of_decide_eq_true (by first | (with_reducible assumption) | assumption)
                                    have q46 : (ji43) < (a0.size : Int) := of_decide_eq_true (by first | (with_reducible assumption) | assumption)
                                    have hx46 := bt_at a0 (ji43)
                                    replace p46 := eq_true p46
                                    replace q46 := eq_true q46
                                    go_wp2
                                    go_ret3
                                    exact ⟨by first | rfl | (simp [errW_none, errW_some] <;> rfl) | (simp only [← hji43]; first | rfl | (simp [errW_none, errW_some] <;> rfl)) | (simp [*, errW_none, errW_some] <;> rfl), by repeat (first | (with_reducible first | exact HB.out | apply below_alloc | apply pw_below_drewN | apply below_drew1) | exact HB.out)⟩
                                  · rw [if_neg c49] at H
                                    have c49b0 : decide ((bt a0 (ji43)) ≤ 122) = false := decide_eq_false c49
                                    clear c49
                                    by_cases c50 : (bt a0 (ji43)) ≥ 65
                                    · rw [if_pos c50] at H
                                      have c50b0 : decide (65 ≤ (bt a0 (ji43))) = true := decide_eq_true c50
                                      clear c50
                                      by_cases c51 : (bt a0 (ji43)) ≤ 90
                                      · rw [if_pos c51] at H
                                        have c51b0 : decide ((bt a0 (ji43)) ≤ 90) = true := decide_eq_true c51
                                        clear c51
                                        simp only [Option.some.injEq, Prod.mk.injEq] at H
                                        obtain ⟨rfl, rfl, rfl⟩ := H
                                        have p46 : 0 ≤ ((ji43) : Int) := of_decide_eq_true (by first | (with_reducible assumption) | assumption)
                                        have q46 : (ji43) < (a0.size : Int) := of_decide_eq_true (by first | (with_reducible assumption) | assumption)
                                        have hx46 := bt_at a0 (ji43)
                                        replace p46 := eq_true p46
                                        replace q46 := eq_true q46
                                        go_wp2
                                        go_ret3
                                        exact ⟨by first | rfl | (simp [errW_none, errW_some] <;> rfl) | (simp only [← hji43]; first | rfl | (simp [errW_none, errW_some] <;> rfl)) | (simp [*, errW_none, errW_some] <;> rfl), by repeat (first | (with_reducible first | exact HB.out | apply below_alloc | apply pw_below_drewN | apply below_drew1) | exact HB.out)⟩
                                      · rw [if_neg c51] at H
                                        have c51b0 : decide ((bt a0 (ji43)) ≤ 90) = false := decide_eq_false c51
                                        clear c51
                                        by_cases c52 : (bt a0 (ji43)) ≥ 48
                                        · rw [if_pos c52] at H
                                          have c52b0 : decide (48 ≤ (bt a0 (ji43))) = true := decide_eq_true c52
                                          clear c52
                                          by_cases c53 : (bt a0 (ji43)) ≤ 57
                                          · rw [if_pos c53] at H
                                            have c53b0 : decide ((bt a0 (ji43)) ≤ 57) = true := decide_eq_true c53
                                            clear c53
                                            simp only [Option.some.injEq, Prod.mk.injEq] at H
                                            obtain ⟨rfl, rfl, rfl⟩ := H
                                            have p46 : 0 ≤ ((ji43) : Int) := of_decide_eq_true (by first | (with_reducible assumption) | assumption)
                                            have q46 : (ji43) < (a0.size : Int) := of_decide_eq_true (by first | (with_reducible assumption) | assumption)
                                            have hx46 := bt_at a0 (ji43)
                                            replace p46 := eq_true p46
                                            replace q46 := eq_true q46
                                            go_wp2
                                            go_ret3
                                            exact ⟨by first | rfl | (simp [errW_none, errW_some] <;> rfl) | (simp only [← hji43]; first | rfl | (simp [errW_none, errW_some] <;> rfl)) | (simp [*, errW_none, errW_some] <;> rfl), by repeat (first | (with_reducible first | exact HB.out | apply below_alloc | apply pw_below_drewN | apply below_drew1) | exact HB.out)⟩
                                          · rw [if_neg c53] at H
                                            have c53b0 : decide ((bt a0 (ji43)) ≤ 57) = false := decide_eq_false c53
                                            clear c53
                                            simp only [Option.some.injEq, Prod.mk.injEq] at H
                                            obtain ⟨rfl, rfl, rfl⟩ := H
                                            have p46 : 0 ≤ ((ji43) : Int) := of_decide_eq_true (by first | (with_reducible assumption) | assumption)
                                            have q46 : (ji43) < (a0.size : Int) := of_decide_eq_true (by first | (with_reducible assumption) | assumption)
                                            have hx46 := bt_at a0 (ji43)
                                            replace p46 := eq_true p46
                                            replace q46 := eq_true q46
                                            go_wp2
                                            go_ret3
                                            exact ⟨by first | rfl | (simp [errW_none, errW_some] <;> rfl) | (simp only [← hji43]; first | rfl | (simp [errW_none, errW_some] <;> rfl)) | (simp [*, errW_none, errW_some] <;> rfl), by repeat (first | (with_reducible first | exact HB.out | apply below_alloc | apply pw_below_drewN | apply below_drew1) | exact HB.out)⟩
                                        · rw [if_neg c52] at H
                                          have c52b0 : decide (48 ≤ (bt a0 (ji43))) = false := decide_eq_false c52
                                          clear c52
                                          simp only [Option.some.injEq, Prod.mk.injEq] at H
                                          obtain ⟨rfl, rfl, rfl⟩ := H
                                          have p46 : 0 ≤ ((ji43) : Int) := of_decide_eq_true (by first | (with_reducible assumption) | assumption)
                                          have q46 : (ji43) < (a0.size : Int) := of_decide_eq_true (by first | (with_reducible assumption) | assumption)
                                          have hx46 := bt_at a0 (ji43)
                                          replace p46 := eq_true p46
                                          replace q46 := eq_true q46
                                          go_wp2
                                          go_ret3
                                          exact ⟨by first | rfl | (simp [errW_none, errW_some] <;> rfl) | (simp only [← hji43]; first | rfl | (simp [errW_none, errW_some] <;> rfl)) | (simp [*, errW_none, errW_some] <;> rfl), by repeat (first | (with_reducible first | exact HB.out | apply below_alloc | apply pw_below_drewN | apply below_drew1) | exact HB.out)⟩
                                    · rw [if_neg c50] at H
                                      have c50b0 : decide (65 ≤ (bt a0 (ji43))) = false := decide_eq_false c50
                                      clear c50
                                      by_cases c54 : (bt a0 (ji43)) ≥ 48
                                      · rw [if_pos c54] at H
                                        have c54b0 : decide (48 ≤ (bt a0 (ji43))) = true := decide_eq_true c54
                                        clear c54
                                        by_cases c55 : (bt a0 (ji43)) ≤ 57
                                        · rw [if_pos c55] at H
                                          have c55b0 : decide ((bt a0 (ji43)) ≤ 57) = true := decide_eq_true c55
                                          clear c55
                                          simp only [Option.some.injEq, Prod.mk.injEq] at H
                                          obtain ⟨rfl, rfl, rfl⟩ := H
                                          have p46 : 0 ≤ ((ji43) : Int) := of_decide_eq_true (by first | (with_reducible assumption) | assumption)
                                          have q46 : (ji43) < (a0.size : Int) := of_decide_eq_true (by first | (with_reducible assumption) | assumption)
                                          have hx46 := bt_at a0 (ji43)
                                          replace p46 := eq_true p46
                                          replace q46 := eq_true q46
                                          go_wp2
                                          go_ret3
                                          exact ⟨by first | rfl | (simp [errW_none, errW_some] <;> rfl) | (simp only [← hji43]; first | rfl | (simp [errW_none, errW_some] <;> rfl)) | (simp [*, errW_none, errW_some] <;> rfl), by repeat (first | (with_reducible first | exact HB.out | apply below_alloc | apply pw_below_drewN | apply below_drew1) | exact HB.out)⟩
                                        · rw [if_neg c55] at H
                                          have c55b0 : decide ((bt a0 (ji43)) ≤ 57) = false := decide_eq_false c55
                                          clear c55
                                          simp only [Option.some.injEq, Prod.mk.injEq] at H
                                          obtain ⟨rfl, rfl, rfl⟩ := H
                                          have p46 : 0 ≤ ((ji43) : Int) := of_decide_eq_true (by first | (with_reducible assumption) | assumption)
                                          have q46 : (ji43) < (a0.size : Int) := of_decide_eq_true (by first | (with_reducible assumption) | assumption)
                                          have hx46 := bt_at a0 (ji43)
                                          replace p46 := eq_true p46
                                          replace q46 := eq_true q46
                                          go_wp2
                                          go_ret3
                                          exact ⟨by first | rfl | (simp [errW_none, errW_some] <;> rfl) | (simp only [← hji43]; first | rfl | (simp [errW_none, errW_some] <;> rfl)) | (simp [*, errW_none, errW_some] <;> rfl), by repeat (first | (with_reducible first | exact HB.out | apply below_alloc | apply pw_below_drewN | apply below_drew1) | exact HB.out)⟩
                                      · rw [if_neg c54] at H
                                        have c54b0 : decide (48 ≤ (bt a0 (ji43))) = false := decide_eq_false c54
                                        clear c54
                                        simp only [Option.some.injEq, Prod.mk.injEq] at H
                                        obtain ⟨rfl, rfl, rfl⟩ := H
                                        have p46 : 0 ≤ ((ji43) : Int) := of_decide_eq_true (by first | (with_reducible assumption) | assumption)
                                        have q46 : (ji43) < (a0.size : Int) := of_decide_eq_true (by first | (with_reducible assumption) | assumption)
                                        have hx46 := bt_at a0 (ji43)
                                        replace p46 := eq_true p46
                                        replace q46 := eq_true q46
                                        go_wp2
                                        go_ret3
                                        exact ⟨by first | rfl | (simp [errW_none, errW_some] <;> rfl) | (simp only [← hji43]; first | rfl | (simp [errW_none, errW_some] <;> rfl)) | (simp [*, errW_none, errW_some] <;> rfl), by repeat (first | (with_reducible first | exact HB.out | apply below_alloc | apply pw_below_drewN | apply below_drew1) | exact HB.out)⟩
                                · rw [if_neg c48] at H
                                  have c48b0 : decide (97 ≤ (bt a0 (ji43))) = false := decide_eq_false c48
                                  clear c48
                                  by_cases c56 : (bt a0 (ji43)) ≥ 65
                                  · rw [if_pos c56] at H
                                    have c56b0 : decide (65 ≤ (bt a0 (ji43))) = true := decide_eq_true c56
                                    clear c56
                                    by_cases c57 : (bt a0 (ji43)) ≤ 90
                                    · rw [if_pos c57] at H
                                      have c57b0 : decide ((bt a0 (ji43)) ≤ 90) = true := decide_eq_true c57
                                      clear c57
                                      simp only [Option.some.injEq, Prod.mk.injEq] at H
                                      obtain ⟨rfl, rfl, rfl⟩ := H
                                      have p46 : 0 ≤ ((ji43) : Int) := of_decide_eq_true (by first | (with_reducible assumption) | assumption)
                                      have q46 : (ji43) < (a0.size : Int) := of_decide_eq_true (by first | (with_reducible assumption) | assumption)
                                      have hx46 := bt_at a0 (ji43)
                                      replace p46 := eq_true p46
                                      replace q46 := eq_true q46
                                      go_wp2
                                      go_ret3
                                      exact ⟨by first | rfl | (simp [errW_none, errW_some] <;> rfl) | (simp only [← hji43]; first | rfl | (simp [errW_none, errW_some] <;> rfl)) | (simp [*, errW_none, errW_some] <;> rfl), by repeat (first | (with_reducible first | exact HB.out | apply below_alloc | apply pw_below_drewN | apply below_drew1) | exact HB.out)⟩
                                    · rw [if_neg c57] at H
                                      have c57b0 : decide ((bt a0 (ji43)) ≤ 90) = false := decide_eq_false c57
                                      clear c57
                                      by_cases c58 : (bt a0 (ji43)) ≥ 48
                                      · rw [if_pos c58] at H
                                        have c58b0 : decide (48 ≤ (bt a0 (ji43))) = true := decide_eq_true c58
                                        clear c58
                                        by_cases c59 : (bt a0 (ji43)) ≤ 57
                                        · rw [if_pos c59] at H
                                          have c59b0 : decide ((bt a0 (ji43)) ≤ 57) = true := decide_eq_true c59
                                          clear c59
                                          simp only [Option.some.injEq, Prod.mk.injEq] at H
                                          obtain ⟨rfl, rfl, rfl⟩ := H
                                          have p46 : 0 ≤ ((ji43) : Int) := of_decide_eq_true (by first | (with_reducible assumption) | assumption)
                                          have q46 : (ji43) < (a0.size : Int) := of_decide_eq_true (by first | (with_reducible assumption) | assumption)
                                          have hx46 := bt_at a0 (ji43)
                                          replace p46 := eq_true p46
                                          replace q46 := eq_true q46
                                          go_wp2
                                          go_ret3
                                          exact ⟨by first | rfl | (simp [errW_none, errW_some] <;> rfl) | (simp only [← hji43]; first | rfl | (simp [errW_none, errW_some] <;> rfl)) | (simp [*, errW_none, errW_some] <;> rfl), by repeat (first | (with_reducible first | exact HB.out | apply below_alloc | apply pw_below_drewN | apply below_drew1) | exact HB.out)⟩
                                        · rw [if_neg c59] at H
                                          have c59b0 : decide ((bt a0 (ji43)) ≤ 57) = false := decide_eq_false c59
                                          clear c59
                                          simp only [Option.some.injEq, Prod.mk.injEq] at H
                                          obtain ⟨rfl, rfl, rfl⟩ := H
                                          have p46 : 0 ≤ ((ji43) : Int) := of_decide_eq_true (by first | (with_reducible assumption) | assumption)
                                          have q46 : (ji43) < (a0.size : Int) := of_decide_eq_true (by first | (with_reducible assumption) | assumption)
                                          have hx46 := bt_at a0 (ji43)
                                          replace p46 := eq_true p46
                                          replace q46 := eq_true q46
                                          go_wp2
                                          go_ret3
                                          exact ⟨by first | rfl | (simp [errW_none, errW_some] <;> rfl) | (simp only [← hji43]; first | rfl | (simp [errW_none, errW_some] <;> rfl)) | (simp [*, errW_none, errW_some] <;> rfl), by repeat (first | (with_reducible first | exact HB.out | apply below_alloc | apply pw_below_drewN | apply below_drew1) | exact HB.out)⟩
                                      · rw [if_neg c58] at H
                                        have c58b0 : decide (48 ≤ (bt a0 (ji43))) = false := decide_eq_false c58
                                        clear c58
                                        simp only [Option.some.injEq, Prod.mk.injEq] at H
                                        obtain ⟨rfl, rfl, rfl⟩ := H
                                        have p46 : 0 ≤ ((ji43) : Int) := of_decide_eq_true (by first | (with_reducible assumption) | assumption)
                                        have q46 : (ji43) < (a0.size : Int) := of_decide_eq_true (by first | (with_reducible assumption) | assumption)
                                        have hx46 := bt_at a0 (ji43)
                                        replace p46 := eq_true p46
                                        replace q46 := eq_true q46
                                        go_wp2
                                        go_ret3
                                        exact ⟨by first | rfl | (simp [errW_none, errW_some] <;> rfl) | (simp only [← hji43]; first | rfl | (simp [errW_none, errW_some] <;> rfl)) | (simp [*, errW_none, errW_some] <;> rfl), by repeat (first | (with_reducible first | exact HB.out | apply below_alloc | apply pw_below_drewN | apply below_drew1) | exact HB.out)⟩
                                  · rw [if_neg c56] at H
                                    have c56b0 : decide (65 ≤ (bt a0 (ji43))) = false := decide_eq_false c56
                                    clear c56
                                    by_cases c60 : (bt a0 (ji43)) ≥ 48
                                    · rw [if_pos c60] at H
                                      have c60b0 : decide (48 ≤ (bt a0 (ji43))) = true := decide_eq_true c60
                                      clear c60
                                      by_cases c61 : (bt a0 (ji43)) ≤ 57
                                      · rw [if_pos c61] at H
                                        have c61b0 : decide ((bt a0 (ji43)) ≤ 57) = true := decide_eq_true c61
                                        clear c61
                                        simp only [Option.some.injEq, Prod.mk.injEq] at H
                                        obtain ⟨rfl, rfl, rfl⟩ := H
                                        have p46 : 0 ≤ ((ji43) : Int) := of_decide_eq_true (by first | (with_reducible assumption) | assumption)
                                        have q46 : (ji43) < (a0.size : Int) := of_decide_eq_true (by first | (with_reducible assumption) | assumption)
                                        have hx46 := bt_at a0 (ji43)
                                        replace p46 := eq_true p46
                                        replace q46 := eq_true q46
                                        go_wp2
                                        go_ret3
                                        exact ⟨by first | rfl | (simp [errW_none, errW_some] <;> rfl) | (simp only [← hji43]; first | rfl | (simp [errW_none, errW_some] <;> rfl)) | (simp [*, errW_none, errW_some] <;> rfl), by repeat (first | (with_reducible first | exact HB.out | apply below_alloc | apply pw_below_drewN | apply below_drew1) | exact HB.out)⟩
                                      · rw [if_neg c61] at H
                                        have c61b0 : decide ((bt a0 (ji43)) ≤ 57) = false := decide_eq_false c61
                                        clear c61
                                        simp only [Option.some.injEq, Prod.mk.injEq] at H
                                        obtain ⟨rfl, rfl, rfl⟩ := H
                                        have p46 : 0 ≤ ((ji43) : Int) := of_decide_eq_true (by first | (with_reducible assumption) | assumption)
                                        have q46 : (ji43) < (a0.size : Int) := of_decide_eq_true (by first | (with_reducible assumption) | assumption)
                                        have hx46 := bt_at a0 (ji43)
                                        replace p46 := eq_true p46
                                        replace q46 := eq_true q46
                                        go_wp2
                                        go_ret3
                                        exact ⟨by first | rfl | (simp [errW_none, errW_some] <;> rfl) | (simp only [← hji43]; first | rfl | (simp [errW_none, errW_some] <;> rfl)) | (simp [*, errW_none, errW_some] <;> rfl), by repeat (first | (with_reducible first | exact HB.out | apply below_alloc | apply pw_below_drewN | apply below_drew1) | exact HB.out)⟩
                                    · rw [if_neg c60] at H
                                      have c60b0 : decide (48 ≤ (bt a0 (ji43))) = false := decide_eq_false c60
                                      clear c60
                                      simp only [Option.some.injEq, Prod.mk.injEq] at H
                                      obtain ⟨rfl, rfl, rfl⟩ := H
                                      have p46 : 0 ≤ ((ji43) : Int) := of_decide_eq_true (by first | (with_reducible assumption) | assumption)
                                      have q46 : (ji43) < (a0.size : Int) := of_decide_eq_true (by first | (with_reducible assumption) | assumption)
                                      have hx46 := bt_at a0 (ji43)
                                      replace p46 := eq_true p46
                                      replace q46 := eq_true q46
                                      go_wp2
                                      go_ret3
                                      exact ⟨by first | rfl | (simp [errW_none, errW_some] <;> rfl) | (simp only [← hji43]; first | rfl | (simp [errW_none, errW_some] <;> rfl)) | (simp [*, errW_none, errW_some] <;> rfl), by repeat (first | (with_reducible first | exact HB.out | apply below_alloc | apply pw_below_drewN | apply below_drew1) | exact HB.out)⟩
                            · rw [if_neg c45] at H
                              exact absurd H (by simp)
                          · rw [if_neg c44] at H
                            exact absurd H (by simp)
                        · replace c42 := Bool.eq_false_iff.mpr c42
                          subst c42
                          have H1 : (some (x10_3, x9_3, x11_3)) = some (r1, r2, r3) := by rw [if_neg (show ¬ (false = true) by decide)] at H; exact H
                          clear H
                          have H := H1
                          clear H1
                          simp only [Option.some.injEq, Prod.mk.injEq] at H
                          obtain ⟨rfl, rfl, rfl⟩ := H
                          go_wp2
                          go_ret3
                          exact ⟨by first | rfl | (simp [errW_none, errW_some] <;> rfl) | (simp [*, errW_none, errW_some] <;> rfl), by repeat (first | (with_reducible first | exact HB.out | apply below_alloc | apply pw_below_drewN | apply below_drew1) | exact HB.out)⟩

end Go.Proofs.Ytebcdfdkgjcmmaa.P
