-- Written by wip/tools/gprint.py of this session, over the kit's print. Lean checks it.
import Derived.Test.YtebcdfdkgjcmmaaPx0
import Derived.Test.YtebcdfdkgjcmmaaPx5
namespace Go.Proofs.Ytebcdfdkgjcmmaa.P
open Go.Proofs.Ytebcdfdkgjcmmaa.Hand
open Go.RowKit Go.Proofs.YtebcdfdkgjcmmaaW.PrintWords Go.Proofs.YtebcdfdkgjcmmaaW.PrintLast Go.Proofs.YtebcdfdkgjcmmaaW.PrintMore
attribute [local go_sem] max2_int min2_int max_two min_two max_three min_three max_four min_four   -- for this text's walks alone
attribute [local go_sem] Go.IntKind.wrap_u32
set_option linter.unusedVariables false
set_option linter.unusedSimpArgs false

/-! ### portiereref04_numeric: function 22 -/
mutual
def portiereref04_numeric.j0 : Nat → ByteArray → Int → Int → Int → Bool → Option (ByteArray × Int × Int)
  | 0, _, _, _, _, _ => none
  | k + 1, x0, x1, x7, x8, x30 => if x30 = true then (portiereref04_numeric.j1 k x0 x1 (wrap64 (x7 + 1)) 16) else (portiereref04_numeric.j1 k x0 x1 x7 x8)
def portiereref04_numeric.j1 : Nat → ByteArray → Int → Int → Int → Option (ByteArray × Int × Int)
  | 0, _, _, _, _ => none
  | k + 1, x0, x1, x7, x8 => portiereref04_numeric.l0 k x0 x1 x7 x8 x7 0
def portiereref04_numeric.j3 : Nat → ByteArray → Int → Int → Int → Int → Option (ByteArray × Int × Int)
  | 0, _, _, _, _, _ => none
  | k + 1, x0, x1, x7, x9, x10 => if x7 = x9 then (some ((⟨#[]⟩ : ByteArray), 0, 0)) else (if x7 < (x0.size : Int) then (if 0 ≤ x7 then (portiereref04_numeric.j4 k x1 x7 x10 1 ((bt x0 x7) == 59)) else (none)) else (portiereref04_numeric.j4 k x1 x7 x10 1 false))
def portiereref04_numeric.j4 : Nat → Int → Int → Int → Int → Bool → Option (ByteArray × Int × Int)
  | 0, _, _, _, _, _ => none
  | k + 1, x1, x7, x10, x11, x70 => if x70 = true then (portiereref04_numeric.j5 k x1 (wrap64 (x7 + 1)) x10 0) else (portiereref04_numeric.j5 k x1 x7 x10 x11)
def portiereref04_numeric.j5 : Nat → Int → Int → Int → Int → Option (ByteArray × Int × Int)
  | 0, _, _, _, _ => none
  | k + 1, x1, x7, x10, x11 => if x10 = 0 then (portiereref04_numeric.j6 k x1 x7 x10 x11 true) else (if x10 > 1114111 then (portiereref04_numeric.j6 k x1 x7 x10 x11 true) else (if x10 ≥ 55296 then (portiereref04_numeric.j6 k x1 x7 x10 x11 (decide (x10 ≤ 57343))) else (portiereref04_numeric.j6 k x1 x7 x10 x11 false)))
def portiereref04_numeric.j6 : Nat → Int → Int → Int → Int → Bool → Option (ByteArray × Int × Int)
  | 0, _, _, _, _, _ => none
  | k + 1, x1, x7, x10, x11, x86 => if x86 = true then (some ((⟨#[239, 191, 189]⟩ : ByteArray), wrap64 (x7 - x1), 2)) else (if x10 ≥ 128 then (if x10 ≤ 159 then ((some (([8364, 129, 8218, 402, 8222, 8230, 8224, 8225, 710, 8240, 352, 8249, 338, 141, 381, 143, 144, 8216, 8217, 8220, 8221, 8226, 8211, 8212, 732, 8482, 353, 8250, 339, 157, 382, 376] : List Int) : List Int)).bind fun y137 => (if 0 ≤ (wrap64 (x10 - 128)) then (if (wrap64 (x10 - 128)) ≤ (wrap64 (x10 - 127)) then (if (wrap64 (x10 - 127)) ≤ (y137.length : Int) then (some (runesBytes ((y137.take ((wrap64 (x10 - 127)) : Int).toNat).drop ((wrap64 (x10 - 128)) : Int).toNat), wrap64 (x7 - x1), 2)) else (none)) else (none)) else (none))) else (some (runesBytes (([wrap32 (x10)] : List Int)), wrap64 (x7 - x1), x11))) else (some (runesBytes (([wrap32 (x10)] : List Int)), wrap64 (x7 - x1), x11)))
def portiereref04_numeric.l0 : Nat → ByteArray → Int → Int → Int → Int → Int → Option (ByteArray × Int × Int)
  | 0, _, _, _, _, _, _ => none
  | k + 1, x0, x1, x7, x8, x9, x10 => if x7 < (x0.size : Int) then (if 0 ≤ x7 then ((portiereref04_digit.f k (bt x0 x7) x8).bind fun t135 => (if t135 ≥ 0 then ((portiereref04_digit.f k (bt x0 x7) x8).bind fun t136 => (portiereref04_numeric.l0 k x0 x1 (wrap64 (x7 + 1)) x8 x9 (mn (wrap64 ((wrap64 (x10 * x8)) + t136)) 1114112))) else (portiereref04_numeric.j3 k x0 x1 x7 x9 x10))) else (none)) else (portiereref04_numeric.j3 k x0 x1 x7 x9 x10)
end
def portiereref04_numeric.f (k : Nat) (a0 : ByteArray) (a1 : Int) : Option (ByteArray × Int × Int) := if (wrap64 (a1 + 2)) < (a0.size : Int) then (if 0 ≤ (wrap64 (a1 + 2)) then (if (bt a0 (wrap64 (a1 + 2))) = 120 then (portiereref04_numeric.j0 k a0 a1 (wrap64 (a1 + 2)) 10 true) else (portiereref04_numeric.j0 k a0 a1 (wrap64 (a1 + 2)) 10 ((bt a0 (wrap64 (a1 + 2))) == 88))) else (none)) else (portiereref04_numeric.j0 k a0 a1 (wrap64 (a1 + 2)) 10 false)
theorem portiereref04_numeric.mono_l : ∀ k, (∀ y0 y1 y2 y3 y4, LeO (portiereref04_numeric.j0 k y0 y1 y2 y3 y4) (portiereref04_numeric.j0 (k + 1) y0 y1 y2 y3 y4)) ∧ (∀ y0 y1 y2 y3, LeO (portiereref04_numeric.j1 k y0 y1 y2 y3) (portiereref04_numeric.j1 (k + 1) y0 y1 y2 y3)) ∧ (∀ y0 y1 y2 y3 y4, LeO (portiereref04_numeric.j3 k y0 y1 y2 y3 y4) (portiereref04_numeric.j3 (k + 1) y0 y1 y2 y3 y4)) ∧ (∀ y0 y1 y2 y3 y4, LeO (portiereref04_numeric.j4 k y0 y1 y2 y3 y4) (portiereref04_numeric.j4 (k + 1) y0 y1 y2 y3 y4)) ∧ (∀ y0 y1 y2 y3, LeO (portiereref04_numeric.j5 k y0 y1 y2 y3) (portiereref04_numeric.j5 (k + 1) y0 y1 y2 y3)) ∧ (∀ y0 y1 y2 y3 y4, LeO (portiereref04_numeric.j6 k y0 y1 y2 y3 y4) (portiereref04_numeric.j6 (k + 1) y0 y1 y2 y3 y4)) ∧ (∀ y0 y1 y2 y3 y4 y5, LeO (portiereref04_numeric.l0 k y0 y1 y2 y3 y4 y5) (portiereref04_numeric.l0 (k + 1) y0 y1 y2 y3 y4 y5))
  | 0 => ⟨fun _ _ _ _ _ r h => by simp [portiereref04_numeric.j0] at h, fun _ _ _ _ r h => by simp [portiereref04_numeric.j1] at h, fun _ _ _ _ _ r h => by simp [portiereref04_numeric.j3] at h, fun _ _ _ _ _ r h => by simp [portiereref04_numeric.j4] at h, fun _ _ _ _ r h => by simp [portiereref04_numeric.j5] at h, fun _ _ _ _ _ r h => by simp [portiereref04_numeric.j6] at h, fun _ _ _ _ _ _ r h => by simp [portiereref04_numeric.l0] at h⟩
  | k + 1 => by
    obtain ⟨ih0, ih1, ih2, ih3, ih4, ih5, ih6⟩ := portiereref04_numeric.mono_l k
    refine ⟨?_, ?_, ?_, ?_, ?_, ?_, ?_⟩
    · intro y0 y1 y2 y3 y4
      unfold portiereref04_numeric.j0
      repeat' first
      | (with_reducible exact ih0 _ _ _ _ _)
      | (with_reducible exact ih1 _ _ _ _)
      | (with_reducible exact ih2 _ _ _ _ _)
      | (with_reducible exact ih3 _ _ _ _ _)
      | (with_reducible exact ih4 _ _ _ _)
      | (with_reducible exact ih5 _ _ _ _ _)
      | (with_reducible exact ih6 _ _ _ _ _ _)
      | (with_reducible exact portiereref04_digit.mono _ _ _)
      | (with_reducible exact LeO.refl _)
      | (with_reducible exact LeO.none _)
      | (with_reducible refine LeO.ite ?_ ?_)
      | (with_reducible refine LeO.bind ?_ (fun _ => ?_))
      | exact ih0 _ _ _ _ _
      | exact ih1 _ _ _ _
      | exact ih2 _ _ _ _ _
      | exact ih3 _ _ _ _ _
      | exact ih4 _ _ _ _
      | exact ih5 _ _ _ _ _
      | exact ih6 _ _ _ _ _ _
      | exact portiereref04_digit.mono _ _ _
      | exact LeO.none _
      | refine LeO.ite ?_ ?_
      | refine LeO.bind ?_ (fun _ => ?_)
    · intro y0 y1 y2 y3
      unfold portiereref04_numeric.j1
      repeat' first
      | (with_reducible exact ih0 _ _ _ _ _)
      | (with_reducible exact ih1 _ _ _ _)
      | (with_reducible exact ih2 _ _ _ _ _)
      | (with_reducible exact ih3 _ _ _ _ _)
      | (with_reducible exact ih4 _ _ _ _)
      | (with_reducible exact ih5 _ _ _ _ _)
      | (with_reducible exact ih6 _ _ _ _ _ _)
      | (with_reducible exact portiereref04_digit.mono _ _ _)
      | (with_reducible exact LeO.refl _)
      | (with_reducible exact LeO.none _)
      | (with_reducible refine LeO.ite ?_ ?_)
      | (with_reducible refine LeO.bind ?_ (fun _ => ?_))
      | exact ih0 _ _ _ _ _
      | exact ih1 _ _ _ _
      | exact ih2 _ _ _ _ _
      | exact ih3 _ _ _ _ _
      | exact ih4 _ _ _ _
      | exact ih5 _ _ _ _ _
      | exact ih6 _ _ _ _ _ _
      | exact portiereref04_digit.mono _ _ _
      | exact LeO.none _
      | refine LeO.ite ?_ ?_
      | refine LeO.bind ?_ (fun _ => ?_)
    · intro y0 y1 y2 y3 y4
      unfold portiereref04_numeric.j3
      repeat' first
      | (with_reducible exact ih0 _ _ _ _ _)
      | (with_reducible exact ih1 _ _ _ _)
      | (with_reducible exact ih2 _ _ _ _ _)
      | (with_reducible exact ih3 _ _ _ _ _)
      | (with_reducible exact ih4 _ _ _ _)
      | (with_reducible exact ih5 _ _ _ _ _)
      | (with_reducible exact ih6 _ _ _ _ _ _)
      | (with_reducible exact portiereref04_digit.mono _ _ _)
      | (with_reducible exact LeO.refl _)
      | (with_reducible exact LeO.none _)
      | (with_reducible refine LeO.ite ?_ ?_)
      | (with_reducible refine LeO.bind ?_ (fun _ => ?_))
      | exact ih0 _ _ _ _ _
      | exact ih1 _ _ _ _
      | exact ih2 _ _ _ _ _
      | exact ih3 _ _ _ _ _
      | exact ih4 _ _ _ _
      | exact ih5 _ _ _ _ _
      | exact ih6 _ _ _ _ _ _
      | exact portiereref04_digit.mono _ _ _
      | exact LeO.none _
      | refine LeO.ite ?_ ?_
      | refine LeO.bind ?_ (fun _ => ?_)
    · intro y0 y1 y2 y3 y4
      unfold portiereref04_numeric.j4
      repeat' first
      | (with_reducible exact ih0 _ _ _ _ _)
      | (with_reducible exact ih1 _ _ _ _)
      | (with_reducible exact ih2 _ _ _ _ _)
      | (with_reducible exact ih3 _ _ _ _ _)
      | (with_reducible exact ih4 _ _ _ _)
      | (with_reducible exact ih5 _ _ _ _ _)
      | (with_reducible exact ih6 _ _ _ _ _ _)
      | (with_reducible exact portiereref04_digit.mono _ _ _)
      | (with_reducible exact LeO.refl _)
      | (with_reducible exact LeO.none _)
      | (with_reducible refine LeO.ite ?_ ?_)
      | (with_reducible refine LeO.bind ?_ (fun _ => ?_))
      | exact ih0 _ _ _ _ _
      | exact ih1 _ _ _ _
      | exact ih2 _ _ _ _ _
      | exact ih3 _ _ _ _ _
      | exact ih4 _ _ _ _
      | exact ih5 _ _ _ _ _
      | exact ih6 _ _ _ _ _ _
      | exact portiereref04_digit.mono _ _ _
      | exact LeO.none _
      | refine LeO.ite ?_ ?_
      | refine LeO.bind ?_ (fun _ => ?_)
    · intro y0 y1 y2 y3
      unfold portiereref04_numeric.j5
      repeat' first
      | (with_reducible exact ih0 _ _ _ _ _)
      | (with_reducible exact ih1 _ _ _ _)
      | (with_reducible exact ih2 _ _ _ _ _)
      | (with_reducible exact ih3 _ _ _ _ _)
      | (with_reducible exact ih4 _ _ _ _)
      | (with_reducible exact ih5 _ _ _ _ _)
      | (with_reducible exact ih6 _ _ _ _ _ _)
      | (with_reducible exact portiereref04_digit.mono _ _ _)
      | (with_reducible exact LeO.refl _)
      | (with_reducible exact LeO.none _)
      | (with_reducible refine LeO.ite ?_ ?_)
      | (with_reducible refine LeO.bind ?_ (fun _ => ?_))
      | exact ih0 _ _ _ _ _
      | exact ih1 _ _ _ _
      | exact ih2 _ _ _ _ _
      | exact ih3 _ _ _ _ _
      | exact ih4 _ _ _ _
      | exact ih5 _ _ _ _ _
      | exact ih6 _ _ _ _ _ _
      | exact portiereref04_digit.mono _ _ _
      | exact LeO.none _
      | refine LeO.ite ?_ ?_
      | refine LeO.bind ?_ (fun _ => ?_)
    · intro y0 y1 y2 y3 y4
      unfold portiereref04_numeric.j6
      repeat' first
      | (with_reducible exact ih0 _ _ _ _ _)
      | (with_reducible exact ih1 _ _ _ _)
      | (with_reducible exact ih2 _ _ _ _ _)
      | (with_reducible exact ih3 _ _ _ _ _)
      | (with_reducible exact ih4 _ _ _ _)
      | (with_reducible exact ih5 _ _ _ _ _)
      | (with_reducible exact ih6 _ _ _ _ _ _)
      | (with_reducible exact portiereref04_digit.mono _ _ _)
      | (with_reducible exact LeO.refl _)
      | (with_reducible exact LeO.none _)
      | (with_reducible refine LeO.ite ?_ ?_)
      | (with_reducible refine LeO.bind ?_ (fun _ => ?_))
      | exact ih0 _ _ _ _ _
      | exact ih1 _ _ _ _
      | exact ih2 _ _ _ _ _
      | exact ih3 _ _ _ _ _
      | exact ih4 _ _ _ _
      | exact ih5 _ _ _ _ _
      | exact ih6 _ _ _ _ _ _
      | exact portiereref04_digit.mono _ _ _
      | exact LeO.none _
      | refine LeO.ite ?_ ?_
      | refine LeO.bind ?_ (fun _ => ?_)
    · intro y0 y1 y2 y3 y4 y5
      unfold portiereref04_numeric.l0
      repeat' first
      | (with_reducible exact ih0 _ _ _ _ _)
      | (with_reducible exact ih1 _ _ _ _)
      | (with_reducible exact ih2 _ _ _ _ _)
      | (with_reducible exact ih3 _ _ _ _ _)
      | (with_reducible exact ih4 _ _ _ _)
      | (with_reducible exact ih5 _ _ _ _ _)
      | (with_reducible exact ih6 _ _ _ _ _ _)
      | (with_reducible exact portiereref04_digit.mono _ _ _)
      | (with_reducible exact LeO.refl _)
      | (with_reducible exact LeO.none _)
      | (with_reducible refine LeO.ite ?_ ?_)
      | (with_reducible refine LeO.bind ?_ (fun _ => ?_))
      | exact ih0 _ _ _ _ _
      | exact ih1 _ _ _ _
      | exact ih2 _ _ _ _ _
      | exact ih3 _ _ _ _ _
      | exact ih4 _ _ _ _
      | exact ih5 _ _ _ _ _
      | exact ih6 _ _ _ _ _ _
      | exact portiereref04_digit.mono _ _ _
      | exact LeO.none _
      | refine LeO.ite ?_ ?_
      | refine LeO.bind ?_ (fun _ => ?_)
theorem portiereref04_numeric.mono : ∀ a0 a1 k, LeO (portiereref04_numeric.f k a0 a1) (portiereref04_numeric.f (k + 1) a0 a1) := by
  intro a0 a1 k
  obtain ⟨ih0, ih1, ih2, ih3, ih4, ih5, ih6⟩ := portiereref04_numeric.mono_l k
  unfold portiereref04_numeric.f
  repeat' first
      | (with_reducible exact ih0 _ _ _ _ _)
      | (with_reducible exact ih1 _ _ _ _)
      | (with_reducible exact ih2 _ _ _ _ _)
      | (with_reducible exact ih3 _ _ _ _ _)
      | (with_reducible exact ih4 _ _ _ _)
      | (with_reducible exact ih5 _ _ _ _ _)
      | (with_reducible exact ih6 _ _ _ _ _ _)
      | (with_reducible exact portiereref04_digit.mono _ _ _)
      | (with_reducible exact LeO.refl _)
      | (with_reducible exact LeO.none _)
      | (with_reducible refine LeO.ite ?_ ?_)
      | (with_reducible refine LeO.bind ?_ (fun _ => ?_))
      | exact ih0 _ _ _ _ _
      | exact ih1 _ _ _ _
      | exact ih2 _ _ _ _ _
      | exact ih3 _ _ _ _ _
      | exact ih4 _ _ _ _
      | exact ih5 _ _ _ _ _
      | exact ih6 _ _ _ _ _ _
      | exact portiereref04_digit.mono _ _ _
      | exact LeO.none _
      | refine LeO.ite ?_ ?_
      | refine LeO.bind ?_ (fun _ => ?_)
set_option maxHeartbeats 8000000 in
set_option maxRecDepth 100000 in
theorem portiereref04_numeric.calls (k : Nat) (a0 : ByteArray) (a1 : Int) (r1 : ByteArray) (r2 : Int) (r3 : Int) (w : World) (h : portiereref04_numeric.f k a0 a1 = some (r1, r2, r3)) :
    Calls Try.prog 22 #[.string a0, .int .i64 a1] w fun e w' => e = .returned (.tuple #[.string r1, .int .i64 r2, .int .u8 r3]) ∧ Below w.heap.size w w' := by
  have HB := Aside0.mk (Below.refl w.heap.size w)
  have H : (if (wrap64 (a1 + 2)) < (a0.size : Int) then (if 0 ≤ (wrap64 (a1 + 2)) then (if (bt a0 (wrap64 (a1 + 2))) = 120 then (portiereref04_numeric.j0 k a0 a1 (wrap64 (a1 + 2)) 10 true) else (portiereref04_numeric.j0 k a0 a1 (wrap64 (a1 + 2)) 10 ((bt a0 (wrap64 (a1 + 2))) == 88))) else (none)) else (portiereref04_numeric.j0 k a0 a1 (wrap64 (a1 + 2)) 10 false)) = some (r1, r2, r3) := h
  clear h
  have HC3 := Aside0.mk H
  clear H
  go_enter Try.func22, Try.ntmps22
  go_upto_region 3 with (fail)
  go_cut [30] (fun v30 wc => ∃ (kq : Nat) (x30_2 : Bool), v30 = .bool x30_2 ∧ Aside0 (portiereref04_numeric.j0 kq a0 a1 (wrap64 (a1 + 2)) 10 x30_2 = some (r1, r2, r3)) ∧ Aside0 (kq ≤ k) ∧ Aside0 (Below w.heap.size w wc))
  case first =>
    have H := HC3.out
    clear HC3
    by_cases c4 : (wrap64 (a1 + 2)) < (a0.size : Int)
    · rw [if_pos c4] at H
      (try (have c4u : (((a1 + 2)) < (a0.size : Int)) := by (have h_ := c4; unfold wrap64 at h_; omega)))
      (try (have c4ub0 : decide (((a1 + 2)) < (a0.size : Int)) = true := decide_eq_true c4u))
      (try clear c4u)
      have c4b0 : decide ((wrap64 (a1 + 2)) < (a0.size : Int)) = true := decide_eq_true c4
      clear c4
      (first | rw [c4b0] | (simp only [i64_w, i32_w]; rw [c4b0]) | skip)
      obtain ⟨ji5, hji5⟩ : ∃ j_ : Int, (wrap64 (a1 + 2)) = j_ := ⟨_, rfl⟩
      replace H : (if 0 ≤ (ji5) then (if (bt a0 (ji5)) = 120 then (portiereref04_numeric.j0 k a0 a1 ji5 10 true) else (portiereref04_numeric.j0 k a0 a1 ji5 10 ((bt a0 (ji5)) == 88))) else (none)) = some (r1, r2, r3) := by first | (rw [hji5] at H; exact H) | (simp only [hji5] at H ⊢; exact H)
      (try rw [hji5] at c4b0)
      have hji5w : (IntKind.i64.wrap (a1 + 2)) = ji5 := (i64_w _).trans hji5
      by_cases c6 : 0 ≤ (ji5)
      · rw [if_pos c6] at H
        have c6b0 : decide (0 ≤ (ji5)) = true := decide_eq_true c6
        clear c6
        by_cases c8 : (bt a0 (ji5)) = 120
        · rw [if_pos c8] at H
          have c8b0 : ((bt a0 (ji5)) == 120) = true := beq_iff_eq.mpr c8
          have c8b1 : ((bt a0 (ji5)) != 120) = false := bne_eq_false_iff_eq.mpr c8
          clear c8
          have H' := Aside0.mk H
          clear H
          have p7 : 0 ≤ ((ji5) : Int) := of_decide_eq_true (by first | (with_reducible assumption) | assumption)
          have q7 : (ji5) < (a0.size : Int) := of_decide_eq_true (by first | (with_reducible assumption) | assumption)
          have hx7 := bt_at a0 (ji5)
          replace p7 := eq_true p7
          replace q7 := eq_true q7
          go_wp2
          go_meet
          case rel => exact ⟨_, (true), (by first | rfl | (simp; done) | (simp [*]; done)), (by first | exact H' | (simp only [hji5]; exact H')), ⟨by first | omega | exact Nat.le_refl _⟩, ⟨by repeat (first | (with_reducible first | exact HB.out | apply below_alloc | apply pw_below_drewN | apply below_drew1) | exact HB.out)⟩⟩
        · rw [if_neg c8] at H
          have c8b0 : ((bt a0 (ji5)) == 120) = false := beq_eq_false_iff_ne.mpr c8
          have c8b1 : ((bt a0 (ji5)) != 120) = true := bne_iff_ne.mpr c8
          have H' := Aside0.mk H
          clear H
          have p7 : 0 ≤ ((ji5) : Int) := of_decide_eq_true (by first | (with_reducible assumption) | assumption)
          have q7 : (ji5) < (a0.size : Int) := of_decide_eq_true (by first | (with_reducible assumption) | assumption)
          have hx7 := bt_at a0 (ji5)
          replace p7 := eq_true p7
          replace q7 := eq_true q7
          have p9 : 0 ≤ ((ji5) : Int) := of_decide_eq_true (by first | (with_reducible assumption) | assumption)
          have q9 : (ji5) < (a0.size : Int) := of_decide_eq_true (by first | (with_reducible assumption) | assumption)
          have hx9 := bt_at a0 (ji5)
          replace p9 := eq_true p9
          replace q9 := eq_true q9
          go_wp2
          go_meet
          case rel => exact ⟨_, (((bt a0 (ji5)) == 88)), (by first | rfl | (simp; done) | (simp only [← hji5] <;> (first | rfl | simp)) | (simp [*]; done)), (by first | exact H' | (simp only [hji5]; exact H')), ⟨by first | omega | exact Nat.le_refl _⟩, ⟨by repeat (first | (with_reducible first | exact HB.out | apply below_alloc | apply pw_below_drewN | apply below_drew1) | exact HB.out)⟩⟩
      · rw [if_neg c6] at H
        exact absurd H (by simp)
    · rw [if_neg c4] at H
      (try (have c4u : ¬ (((a1 + 2)) < (a0.size : Int)) := by (have h_ := c4; unfold wrap64 at h_; omega)))
      (try (have c4ub0 : decide (((a1 + 2)) < (a0.size : Int)) = false := decide_eq_false c4u))
      (try clear c4u)
      have c4b0 : decide ((wrap64 (a1 + 2)) < (a0.size : Int)) = false := decide_eq_false c4
      clear c4
      (first | rw [c4b0] | (simp only [i64_w, i32_w]; rw [c4b0]) | skip)
      have H' := Aside0.mk H
      clear H
      go_wp2
      go_meet
      case rel => exact ⟨_, (false), (by first | rfl | (simp; done) | (simp [*]; done)), H', ⟨by first | omega | exact Nat.le_refl _⟩, ⟨by repeat (first | (with_reducible first | exact HB.out | apply below_alloc | apply pw_below_drewN | apply below_drew1) | exact HB.out)⟩⟩
  case rest =>
    clear HC3
    try clear c2
    try clear p2
    try clear c4
    try clear c4b0
    try clear c6
    try clear c6b0
    try clear p6
    try clear p7
    try clear q7
    try clear hx7
    try clear c8
    try clear c8b0
    try clear c8b1
    try clear p9
    try clear q9
    try clear hx9
    try clear p7
    try clear p9
    try clear q7
    try clear q9
    obtain ⟨kq, x30_2, rfl, HA, HJ2, HB⟩ := hcut
    cases kq with
    | zero => exact absurd HA.out (by simp [portiereref04_numeric.j0])
    | succ kj2 =>
      have H := HA.out
      clear HA
      simp only [portiereref04_numeric.j0] at H
      have HC10 := Aside0.mk H
      clear H
      go_upto_if 30 with (fail)
      go_cut [7, 8] (fun v7 v8 wc => ∃ (kq : Nat) (x7_9 : Int) (x8_9 : Int), v7 = .int .i64 x7_9 ∧ v8 = .int .i64 x8_9 ∧ Aside0 (portiereref04_numeric.j1 kq a0 a1 x7_9 x8_9 = some (r1, r2, r3)) ∧ Aside0 (kq ≤ kj2) ∧ Aside0 (Below w.heap.size w wc))
      case first =>
        have H := HC10.out
        clear HC10
        by_cases c11 : x30_2 = true
        · subst c11
          have H1 : (portiereref04_numeric.j1 kj2 a0 a1 (wrap64 ((wrap64 (a1 + 2)) + 1)) 16) = some (r1, r2, r3) := by rw [if_pos rfl] at H; exact H
          clear H
          have H := H1
          clear H1
          have H' := Aside0.mk H
          clear H
          go_wp2
          go_meet
          case rel => exact ⟨_, (wrap64 ((wrap64 (a1 + 2)) + 1)), (16), (by first | rfl | (simp; done) | (simp [*]; done)), (by first | rfl | (simp; done) | (simp [*]; done)), H', ⟨by have := HJ2.out; first | omega | exact Nat.le_refl _⟩, ⟨by repeat (first | (with_reducible first | exact HB.out | apply below_alloc | apply pw_below_drewN | apply below_drew1) | exact HB.out)⟩⟩
        · replace c11 := Bool.eq_false_iff.mpr c11
          subst c11
          have H1 : (portiereref04_numeric.j1 kj2 a0 a1 (wrap64 (a1 + 2)) 10) = some (r1, r2, r3) := by rw [if_neg (show ¬ (false = true) by decide)] at H; exact H
          clear H
          have H := H1
          clear H1
          have H' := Aside0.mk H
          clear H
          go_wp2
          go_meet
          case rel => exact ⟨_, ((wrap64 (a1 + 2))), (10), (by first | rfl | (simp; done) | (simp [*]; done)), (by first | rfl | (simp; done) | (simp [*]; done)), H', ⟨by have := HJ2.out; first | omega | exact Nat.le_refl _⟩, ⟨by repeat (first | (with_reducible first | exact HB.out | apply below_alloc | apply pw_below_drewN | apply below_drew1) | exact HB.out)⟩⟩
      case rest =>
        clear HC10
        try clear c1
        try clear c2
        try clear p2
        try clear c4
        try clear c4b0
        try clear c6
        try clear c6b0
        try clear p6
        try clear p7
        try clear q7
        try clear hx7
        try clear c8
        try clear c8b0
        try clear c8b1
        try clear p9
        try clear q9
        try clear hx9
        try clear c11
        try clear p2
        try clear p6
        try clear p7
        try clear p9
        try clear q7
        try clear q9
        obtain ⟨kq, x7_9, x8_9, rfl, rfl, HA, HJ9, HB⟩ := hcut
        cases kq with
        | zero => exact absurd HA.out (by simp [portiereref04_numeric.j1])
        | succ kj9 =>
          have H := HA.out
          clear HA
          simp only [portiereref04_numeric.j1] at H
          have HC12 := Aside0.mk H
          clear H
          go_upto_block 0 with (fail)
          go_cut [7, 10] (fun v7 v10 wc => ∃ (kq : Nat) (x7_11 : Int) (x10_11 : Int), v7 = .int .i64 x7_11 ∧ v10 = .int .i64 x10_11 ∧ Aside0 (portiereref04_numeric.j3 kq a0 a1 x7_11 x7_9 x10_11 = some (r1, r2, r3)) ∧ Aside0 (kq ≤ kj9) ∧ Aside0 (Below w.heap.size w wc))
          case first =>
            have H := HC12.out
            clear HC12
            have H' := Aside0.mk H
            clear H
            go_wp2
            go_loopg [7, 10] kj9 (fun kq v7 v10 w' => ∃ (x7_3 : Int) (x10_3 : Int), v7 = .int .i64 x7_3 ∧ v10 = .int .i64 x10_3 ∧ Aside0 (portiereref04_numeric.l0 kq a0 a1 x7_3 x8_9 x7_9 x10_3 = some (r1, r2, r3)) ∧ Aside0 (kq ≤ kj9) ∧ Aside0 (Below w.heap.size w w'))
            case atStart => exact ⟨(x7_9), (0), (by first | rfl | (simp; done) | (simp [*]; done)), (by first | rfl | (simp; done) | (simp [*]; done)), H', ⟨Nat.le_refl _⟩, ⟨by repeat (first | (with_reducible first | exact HB.out | apply below_alloc | apply pw_below_drewN | apply below_drew1) | exact HB.out)⟩⟩
            case round =>
              clear H'
              try clear c1
              try clear c2
              try clear p2
              try clear c4
              try clear c4b0
              try clear c6
              try clear c6b0
              try clear p6
              try clear p7
              try clear q7
              try clear hx7
              try clear c8
              try clear c8b0
              try clear c8b1
              try clear p9
              try clear q9
              try clear hx9
              try clear c11
              try clear p2
              try clear p6
              try clear p7
              try clear p9
              try clear q7
              try clear q9
              obtain ⟨x7_3, x10_3, rfl, rfl, HA, HK3, HB⟩ := hrel
              cases gk with
              | zero => exact absurd HA.out (by simp [portiereref04_numeric.l0])
              | succ k3 =>
                have H := HA.out
                clear HA
                simp only [portiereref04_numeric.l0] at H
                by_cases c13 : x7_3 < (a0.size : Int)
                · rw [if_pos c13] at H
                  have c13b0 : decide (x7_3 < (a0.size : Int)) = true := decide_eq_true c13
                  clear c13
                  (first | rw [c13b0] | (simp only [i64_w, i32_w]; rw [c13b0]) | skip)
                  by_cases c14 : 0 ≤ x7_3
                  · rw [if_pos c14] at H
                    have c14b0 : decide (0 ≤ x7_3) = true := decide_eq_true c14
                    clear c14
                    replace H := Option.bind_eq_some_iff.mp H
                    obtain ⟨t135, A160, H⟩ := H
                    replace H : (if t135 ≥ 0 then ((portiereref04_digit.f k3 (bt a0 x7_3) x8_9).bind fun t136 => (portiereref04_numeric.l0 k3 a0 a1 (wrap64 (x7_3 + 1)) x8_9 x7_9 (mn (wrap64 ((wrap64 (x10_3 * x8_9)) + t136)) 1114112))) else (portiereref04_numeric.j3 k3 a0 a1 x7_3 x7_9 x10_3)) = some (r1, r2, r3) := H
                    have A16 := Aside0.mk A160
                    clear A160
                    by_cases c17 : t135 ≥ 0
                    · rw [if_pos c17] at H
                      have c17b0 : decide (0 ≤ t135) = true := decide_eq_true c17
                      clear c17
                      replace H := Option.bind_eq_some_iff.mp H
                      obtain ⟨t136, A190, H⟩ := H
                      replace H : (portiereref04_numeric.l0 k3 a0 a1 (wrap64 (x7_3 + 1)) x8_9 x7_9 (mn (wrap64 ((wrap64 (x10_3 * x8_9)) + t136)) 1114112)) = some (r1, r2, r3) := H
                      have A19 := Aside0.mk A190
                      clear A190
                      obtain ⟨ji20, hji20⟩ : ∃ j_ : Int, (mn (wrap64 ((wrap64 (x10_3 * x8_9)) + t136)) 1114112) = j_ := ⟨_, rfl⟩
                      replace H : (portiereref04_numeric.l0 k3 a0 a1 (wrap64 (x7_3 + 1)) x8_9 x7_9 ji20) = some (r1, r2, r3) := by first | (rw [hji20] at H; exact H) | (simp only [hji20] at H ⊢; exact H)
                      (try rw [hji20] at A16)
                      (try rw [hji20] at A19)
                      have hji20_ : (if 1114112 < (wrap64 ((wrap64 (x10_3 * x8_9)) + t136)) then 1114112 else (wrap64 ((wrap64 (x10_3 * x8_9)) + t136))) = ji20 := hji20
                      have H' := Aside0.mk H
                      clear H
                      have p15 : 0 ≤ (x7_3 : Int) := of_decide_eq_true (by first | (with_reducible assumption) | assumption)
                      have q15 : x7_3 < (a0.size : Int) := of_decide_eq_true (by first | (with_reducible assumption) | assumption)
                      have hx15 := bt_at a0 x7_3
                      replace p15 := eq_true p15
                      replace q15 := eq_true q15
                      go_wp2_with (first | (go_at_call 28; (with_reducible refine (portiereref04_digit.calls k3 (bt a0 x7_3) x8_9 t135 _ A16.out).mono ?_); rintro e w' ⟨rfl, ⟨nd, rfl⟩⟩; have p18 : 0 ≤ (x7_3 : Int) := of_decide_eq_true (by first | (with_reducible assumption) | assumption); have q18 : x7_3 < (a0.size : Int) := of_decide_eq_true (by first | (with_reducible assumption) | assumption); have hx18 := bt_at a0 x7_3; replace p18 := eq_true p18; replace q18 := eq_true q18) | ((with_reducible refine gate_callee (f := 28) rfl ?_); refine goesL_ (some 53) rfl rfl Try.func28 (by kernel_rfl) rfl #[.int .u8 (bt a0 x7_3), .int .i64 x8_9] rfl (by (try simp only [List.map_toArray, List.map_cons, List.map_nil]); first | done | rfl | (simp only [List.length_drop, List.length_take]; rfl)) ?_; (with_reducible refine (portiereref04_digit.calls k3 (bt a0 x7_3) x8_9 t136 _ A19.out).mono ?_); rintro e w' ⟨rfl, ⟨nd, rfl⟩⟩; refine ⟨_, rfl, ?_⟩))
                      go_roundg k3
                      case measure => have := HJ2.out; have := HJ9.out; have := HK3.out; omega
                      case rel => exact ⟨(wrap64 (x7_3 + 1)), (ji20), (by first | rfl | (simp; done) | (simp [*]; done)), (by first | rfl | (simp; done) | (simp only [← hji20] <;> (first | rfl | simp)) | (simp [*]; done)), H', ⟨by have := HJ2.out; have := HJ9.out; have := HK3.out; omega⟩, ⟨by repeat (first | (with_reducible first | exact HB.out | apply below_alloc | apply pw_below_drewN | apply below_drew1) | exact HB.out)⟩⟩
                    · rw [if_neg c17] at H
                      have c17b0 : decide (0 ≤ t135) = false := decide_eq_false c17
                      clear c17
                      have H' := Aside0.mk H
                      clear H
                      have p15 : 0 ≤ (x7_3 : Int) := of_decide_eq_true (by first | (with_reducible assumption) | assumption)
                      have q15 : x7_3 < (a0.size : Int) := of_decide_eq_true (by first | (with_reducible assumption) | assumption)
                      have hx15 := bt_at a0 x7_3
                      replace p15 := eq_true p15
                      replace q15 := eq_true q15
                      go_wp2_with (first | (go_at_call 28; (with_reducible refine (portiereref04_digit.calls k3 (bt a0 x7_3) x8_9 t135 _ A16.out).mono ?_); rintro e w' ⟨rfl, ⟨nd, rfl⟩⟩))
                      go_meet
                      case rel => exact ⟨_, (x7_3), (x10_3), (by first | rfl | (simp; done) | (simp [*]; done)), (by first | rfl | (simp; done) | (simp [*]; done)), H', ⟨by have := HJ2.out; have := HJ9.out; have := HK3.out; first | omega | exact Nat.le_refl _⟩, ⟨by repeat (first | (with_reducible first | exact HB.out | apply below_alloc | apply pw_below_drewN | apply below_drew1) | exact HB.out)⟩⟩
                  · rw [if_neg c14] at H
                    exact absurd H (by simp)
                · rw [if_neg c13] at H
                  have c13b0 : decide (x7_3 < (a0.size : Int)) = false := decide_eq_false c13
                  clear c13
                  (first | rw [c13b0] | (simp only [i64_w, i32_w]; rw [c13b0]) | skip)
                  have H' := Aside0.mk H
                  clear H
                  go_wp2
                  go_meet
                  case rel => exact ⟨_, (x7_3), (x10_3), (by first | rfl | (simp; done) | (simp [*]; done)), (by first | rfl | (simp; done) | (simp [*]; done)), H', ⟨by have := HJ2.out; have := HJ9.out; have := HK3.out; first | omega | exact Nat.le_refl _⟩, ⟨by repeat (first | (with_reducible first | exact HB.out | apply below_alloc | apply pw_below_drewN | apply below_drew1) | exact HB.out)⟩⟩
          case rest =>
            clear HC12
            try clear c1
            try clear p1
            try clear q1
            try clear hx1
            try clear c2
            try clear p2
            try clear c4
            try clear c4b0
            try clear c6
            try clear c6b0
            try clear p6
            try clear p7
            try clear q7
            try clear hx7
            try clear c8
            try clear c8b0
            try clear c8b1
            try clear p9
            try clear q9
            try clear hx9
            try clear c11
            try clear c13
            try clear c13b0
            try clear c14
            try clear c14b0
            try clear p15
            try clear q15
            try clear hx15
            try clear c17
            try clear c17b0
            try clear p18
            try clear q18
            try clear hx18
            try clear p15
            try clear p18
            try clear p2
            try clear p6
            try clear p7
            try clear p9
            try clear q15
            try clear q18
            try clear q7
            try clear q9
            obtain ⟨kq, x7_11, x10_11, rfl, rfl, HA, HJ11, HB⟩ := hcut
            cases kq with
            | zero => exact absurd HA.out (by simp [portiereref04_numeric.j3])
            | succ kj11 =>
              have H := HA.out
              clear HA
              simp only [portiereref04_numeric.j3] at H
              by_cases c21 : x7_11 = x7_9
              · rw [if_pos c21] at H
                have c21b0 : (x7_11 == x7_9) = true := beq_iff_eq.mpr c21
                have c21b1 : (x7_11 != x7_9) = false := bne_eq_false_iff_eq.mpr c21
                clear c21
                simp only [Option.some.injEq, Prod.mk.injEq] at H
                obtain ⟨rfl, rfl, rfl⟩ := H
                go_wp2
                go_ret3
                exact ⟨by first | rfl | (simp [errW_none, errW_some] <;> rfl) | (simp [*, errW_none, errW_some] <;> rfl), by repeat (first | (with_reducible first | exact HB.out | apply below_alloc | apply pw_below_drewN | apply below_drew1) | exact HB.out)⟩
              · rw [if_neg c21] at H
                have c21b0 : (x7_11 == x7_9) = false := beq_eq_false_iff_ne.mpr c21
                have c21b1 : (x7_11 != x7_9) = true := bne_iff_ne.mpr c21
                have HC22 := Aside0.mk H
                clear H
                go_upto_region 14 with (fail)
                go_cut [70] (fun v70 wc => ∃ (kq : Nat) (x70_21 : Bool), v70 = .bool x70_21 ∧ Aside0 (portiereref04_numeric.j4 kq a1 x7_11 x10_11 1 x70_21 = some (r1, r2, r3)) ∧ Aside0 (kq ≤ kj11) ∧ Aside0 (Below w.heap.size w wc))
                case first =>
                  have H := HC22.out
                  clear HC22
                  by_cases c23 : x7_11 < (a0.size : Int)
                  · rw [if_pos c23] at H
                    have c23b0 : decide (x7_11 < (a0.size : Int)) = true := decide_eq_true c23
                    clear c23
                    (first | rw [c23b0] | (simp only [i64_w, i32_w]; rw [c23b0]) | skip)
                    by_cases c24 : 0 ≤ x7_11
                    · rw [if_pos c24] at H
                      have c24b0 : decide (0 ≤ x7_11) = true := decide_eq_true c24
                      clear c24
                      have H' := Aside0.mk H
                      clear H
                      have p25 : 0 ≤ (x7_11 : Int) := of_decide_eq_true (by first | (with_reducible assumption) | assumption)
                      have q25 : x7_11 < (a0.size : Int) := of_decide_eq_true (by first | (with_reducible assumption) | assumption)
                      have hx25 := bt_at a0 x7_11
                      replace p25 := eq_true p25
                      replace q25 := eq_true q25
                      go_wp2
                      go_meet
                      case rel => exact ⟨_, (((bt a0 x7_11) == 59)), (by first | rfl | (simp; done) | (simp [*]; done)), H', ⟨by have := HJ2.out; have := HJ9.out; have := HJ11.out; first | omega | exact Nat.le_refl _⟩, ⟨by repeat (first | (with_reducible first | exact HB.out | apply below_alloc | apply pw_below_drewN | apply below_drew1) | exact HB.out)⟩⟩
                    · rw [if_neg c24] at H
                      exact absurd H (by simp)
                  · rw [if_neg c23] at H
                    have c23b0 : decide (x7_11 < (a0.size : Int)) = false := decide_eq_false c23
                    clear c23
                    (first | rw [c23b0] | (simp only [i64_w, i32_w]; rw [c23b0]) | skip)
                    have H' := Aside0.mk H
                    clear H
                    go_wp2
                    go_meet
                    case rel => exact ⟨_, (false), (by first | rfl | (simp; done) | (simp [*]; done)), H', ⟨by have := HJ2.out; have := HJ9.out; have := HJ11.out; first | omega | exact Nat.le_refl _⟩, ⟨by repeat (first | (with_reducible first | exact HB.out | apply below_alloc | apply pw_below_drewN | apply below_drew1) | exact HB.out)⟩⟩
                case rest =>
                  clear HC22
                  try clear c1
                  try clear p1
                  try clear q1
                  try clear hx1
                  try clear c2
                  try clear p2
                  try clear q2
                  try clear hx2
                  try clear c4
                  try clear c4b0
                  try clear c6
                  try clear c6b0
                  try clear p6
                  try clear p7
                  try clear q7
                  try clear hx7
                  try clear c8
                  try clear c8b0
                  try clear c8b1
                  try clear p9
                  try clear q9
                  try clear hx9
                  try clear c11
                  try clear c13
                  try clear c13b0
                  try clear c14
                  try clear c14b0
                  try clear p15
                  try clear q15
                  try clear hx15
                  try clear c17
                  try clear c17b0
                  try clear p18
                  try clear q18
                  try clear hx18
                  try clear c21
                  try clear c21b0
                  try clear c21b1
                  try clear c22
                  try clear c23
                  try clear c23b0
                  try clear c24
                  try clear c24b0
                  try clear p25
                  try clear q25
                  try clear hx25
                  try clear p1
                  try clear p15
                  try clear p18
                  try clear p2
                  try clear p25
                  try clear p6
                  try clear p7
                  try clear p9
                  try clear q1
                  try clear q15
                  try clear q18
                  try clear q25
                  try clear q7
                  try clear q9
                  obtain ⟨kq, x70_21, rfl, HA, HJ21, HB⟩ := hcut
                  cases kq with
                  | zero => exact absurd HA.out (by simp [portiereref04_numeric.j4])
                  | succ kj21 =>
                    have H := HA.out
                    clear HA
                    simp only [portiereref04_numeric.j4] at H
                    have HC26 := Aside0.mk H
                    clear H
                    go_upto_if 70 with (fail)
                    go_cut [7, 11] (fun v7 v11 wc => ∃ (kq : Nat) (x7_25 : Int) (x11_25 : Int), v7 = .int .i64 x7_25 ∧ v11 = .int .u8 x11_25 ∧ Aside0 (portiereref04_numeric.j5 kq a1 x7_25 x10_11 x11_25 = some (r1, r2, r3)) ∧ Aside0 (kq ≤ kj21) ∧ Aside0 (Below w.heap.size w wc))
                    case first =>
                      have H := HC26.out
                      clear HC26
                      by_cases c27 : x70_21 = true
                      · subst c27
                        have H1 : (portiereref04_numeric.j5 kj21 a1 (wrap64 (x7_11 + 1)) x10_11 0) = some (r1, r2, r3) := by rw [if_pos rfl] at H; exact H
                        clear H
                        have H := H1
                        clear H1
                        have H' := Aside0.mk H
                        clear H
                        go_wp2
                        go_meet
                        case rel => exact ⟨_, (wrap64 (x7_11 + 1)), (0), (by first | rfl | (simp; done) | (simp [*]; done)), (by first | rfl | (simp; done) | (simp [*]; done)), H', ⟨by have := HJ2.out; have := HJ9.out; have := HJ11.out; have := HJ21.out; first | omega | exact Nat.le_refl _⟩, ⟨by repeat (first | (with_reducible first | exact HB.out | apply below_alloc | apply pw_below_drewN | apply below_drew1) | exact HB.out)⟩⟩
                      · replace c27 := Bool.eq_false_iff.mpr c27
                        subst c27
                        have H1 : (portiereref04_numeric.j5 kj21 a1 x7_11 x10_11 1) = some (r1, r2, r3) := by rw [if_neg (show ¬ (false = true) by decide)] at H; exact H
                        clear H
                        have H := H1
                        clear H1
                        have H' := Aside0.mk H
                        clear H
                        go_wp2
                        go_meet
                        case rel => exact ⟨_, (x7_11), (1), (by first | rfl | (simp; done) | (simp [*]; done)), (by first | rfl | (simp; done) | (simp [*]; done)), H', ⟨by have := HJ2.out; have := HJ9.out; have := HJ11.out; have := HJ21.out; first | omega | exact Nat.le_refl _⟩, ⟨by repeat (first | (with_reducible first | exact HB.out | apply below_alloc | apply pw_below_drewN | apply below_drew1) | exact HB.out)⟩⟩
                    case rest =>
                      clear HC26
                      try clear c1
                      try clear p1
                      try clear q1
                      try clear hx1
                      try clear c2
                      try clear p2
                      try clear q2
                      try clear hx2
                      try clear c4
                      try clear c4b0
                      try clear c6
                      try clear c6b0
                      try clear p6
                      try clear p7
                      try clear q7
                      try clear hx7
                      try clear c8
                      try clear c8b0
                      try clear c8b1
                      try clear p9
                      try clear q9
                      try clear hx9
                      try clear c11
                      try clear c13
                      try clear c13b0
                      try clear c14
                      try clear c14b0
                      try clear p15
                      try clear q15
                      try clear hx15
                      try clear c17
                      try clear c17b0
                      try clear p18
                      try clear q18
                      try clear hx18
                      try clear c21
                      try clear c21b0
                      try clear c21b1
                      try clear c22
                      try clear c23
                      try clear c23b0
                      try clear c24
                      try clear c24b0
                      try clear p25
                      try clear q25
                      try clear hx25
                      try clear c27
                      try clear p1
                      try clear p15
                      try clear p18
                      try clear p2
                      try clear p25
                      try clear p6
                      try clear p7
                      try clear p9
                      try clear q1
                      try clear q15
                      try clear q18
                      try clear q2
                      try clear q25
                      try clear q7
                      try clear q9
                      obtain ⟨kq, x7_25, x11_25, rfl, rfl, HA, HJ25, HB⟩ := hcut
                      cases kq with
                      | zero => exact absurd HA.out (by simp [portiereref04_numeric.j5])
                      | succ kj25 =>
                        have H := HA.out
                        clear HA
                        simp only [portiereref04_numeric.j5] at H
                        have HC28 := Aside0.mk H
                        clear H
                        go_upto_region 17 with (fail)
                        go_cut [86] (fun v86 wc => ∃ (kq : Nat) (x86_27 : Bool), v86 = .bool x86_27 ∧ Aside0 (portiereref04_numeric.j6 kq a1 x7_25 x10_11 x11_25 x86_27 = some (r1, r2, r3)) ∧ Aside0 (kq ≤ kj25) ∧ Aside0 (Below w.heap.size w wc))
                        case first =>
                          have H := HC28.out
                          clear HC28
                          by_cases c29 : x10_11 = 0
                          · rw [if_pos c29] at H
                            have c29b0 : (x10_11 == 0) = true := beq_iff_eq.mpr c29
                            have c29b1 : (x10_11 != 0) = false := bne_eq_false_iff_eq.mpr c29
                            clear c29
                            (first | rw [c29b0] | (simp only [i64_w, i32_w]; rw [c29b0]) | skip)
                            have H' := Aside0.mk H
                            clear H
                            go_wp2
                            go_meet
                            case rel => exact ⟨_, (true), (by first | rfl | (simp; done) | (simp [*]; done)), H', ⟨by have := HJ2.out; have := HJ9.out; have := HJ11.out; have := HJ21.out; have := HJ25.out; first | omega | exact Nat.le_refl _⟩, ⟨by repeat (first | (with_reducible first | exact HB.out | apply below_alloc | apply pw_below_drewN | apply below_drew1) | exact HB.out)⟩⟩
                          · rw [if_neg c29] at H
                            have c29b0 : (x10_11 == 0) = false := beq_eq_false_iff_ne.mpr c29
                            have c29b1 : (x10_11 != 0) = true := bne_iff_ne.mpr c29
                            (first | rw [c29b0] | (simp only [i64_w, i32_w]; rw [c29b0]) | skip)
                            by_cases c30 : x10_11 > 1114111
                            · rw [if_pos c30] at H
                              have c30b0 : decide (1114111 < x10_11) = true := decide_eq_true c30
                              clear c30
                              have H' := Aside0.mk H
                              clear H
                              go_wp2
                              go_meet
                              case rel => exact ⟨_, (true), (by first | rfl | (simp; done) | (simp [*]; done)), H', ⟨by have := HJ2.out; have := HJ9.out; have := HJ11.out; have := HJ21.out; have := HJ25.out; first | omega | exact Nat.le_refl _⟩, ⟨by repeat (first | (with_reducible first | exact HB.out | apply below_alloc | apply pw_below_drewN | apply below_drew1) | exact HB.out)⟩⟩
                            · rw [if_neg c30] at H
                              have c30b0 : decide (1114111 < x10_11) = false := decide_eq_false c30
                              clear c30
                              by_cases c31 : x10_11 ≥ 55296
                              · rw [if_pos c31] at H
                                have c31b0 : decide (55296 ≤ x10_11) = true := decide_eq_true c31
                                clear c31
                                have H' := Aside0.mk H
                                clear H
                                go_wp2
                                go_meet
                                case rel => exact ⟨_, (decide (x10_11 ≤ 57343)), (by first | rfl | (simp; done) | (simp [*]; done)), H', ⟨by have := HJ2.out; have := HJ9.out; have := HJ11.out; have := HJ21.out; have := HJ25.out; first | omega | exact Nat.le_refl _⟩, ⟨by repeat (first | (with_reducible first | exact HB.out | apply below_alloc | apply pw_below_drewN | apply below_drew1) | exact HB.out)⟩⟩
                              · rw [if_neg c31] at H
                                have c31b0 : decide (55296 ≤ x10_11) = false := decide_eq_false c31
                                clear c31
                                have H' := Aside0.mk H
                                clear H
                                go_wp2
                                go_meet
                                case rel => exact ⟨_, (false), (by first | rfl | (simp; done) | (simp [*]; done)), H', ⟨by have := HJ2.out; have := HJ9.out; have := HJ11.out; have := HJ21.out; have := HJ25.out; first | omega | exact Nat.le_refl _⟩, ⟨by repeat (first | (with_reducible first | exact HB.out | apply below_alloc | apply pw_below_drewN | apply below_drew1) | exact HB.out)⟩⟩
                        case rest =>
                          clear HC28
                          try clear c1
                          try clear p1
                          try clear q1
                          try clear hx1
                          try clear c2
                          try clear p2
                          try clear q2
                          try clear hx2
                          try clear c3
                          try clear c4
                          try clear c4b0
                          try clear c6
                          try clear c6b0
                          try clear p6
                          try clear p7
                          try clear q7
                          try clear hx7
                          try clear c8
                          try clear c8b0
                          try clear c8b1
                          try clear p9
                          try clear q9
                          try clear hx9
                          try clear c11
                          try clear c13
                          try clear c13b0
                          try clear c14
                          try clear c14b0
                          try clear p15
                          try clear q15
                          try clear hx15
                          try clear c17
                          try clear c17b0
                          try clear p18
                          try clear q18
                          try clear hx18
                          try clear c21
                          try clear c21b0
                          try clear c21b1
                          try clear c22
                          try clear c23
                          try clear c23b0
                          try clear c24
                          try clear c24b0
                          try clear p25
                          try clear q25
                          try clear hx25
                          try clear c27
                          try clear c28
                          try clear c29
                          try clear c29b0
                          try clear c29b1
                          try clear c30
                          try clear c30b0
                          try clear c31
                          try clear c31b0
                          try clear p1
                          try clear p15
                          try clear p18
                          try clear p2
                          try clear p25
                          try clear p6
                          try clear p7
                          try clear p9
                          try clear q1
                          try clear q15
                          try clear q18
                          try clear q2
                          try clear q25
                          try clear q7
                          try clear q9
                          obtain ⟨kq, x86_27, rfl, HA, HJ27, HB⟩ := hcut
                          cases kq with
                          | zero => exact absurd HA.out (by simp [portiereref04_numeric.j6])
                          | succ kj27 =>
                            have H := HA.out
                            clear HA
                            simp only [portiereref04_numeric.j6] at H
                            by_cases c32 : x86_27 = true
                            · subst c32
                              have H1 : (some ((⟨#[239, 191, 189]⟩ : ByteArray), wrap64 (x7_25 - a1), 2)) = some (r1, r2, r3) := by rw [if_pos rfl] at H; exact H
                              clear H
                              have H := H1
                              clear H1
                              simp only [Option.some.injEq, Prod.mk.injEq] at H
                              obtain ⟨rfl, rfl, rfl⟩ := H
                              go_wp2
                              go_ret3
                              exact ⟨by first | rfl | (simp [errW_none, errW_some] <;> rfl) | (simp [*, errW_none, errW_some] <;> rfl), by repeat (first | (with_reducible first | exact HB.out | apply below_alloc | apply pw_below_drewN | apply below_drew1) | exact HB.out)⟩
                            · replace c32 := Bool.eq_false_iff.mpr c32
                              subst c32
                              have H1 : (if x10_11 ≥ 128 then (if x10_11 ≤ 159 then ((some (([8364, 129, 8218, 402, 8222, 8230, 8224, 8225, 710, 8240, 352, 8249, 338, 141, 381, 143, 144, 8216, 8217, 8220, 8221, 8226, 8211, 8212, 732, 8482, 353, 8250, 339, 157, 382, 376] : List Int) : List Int)).bind fun y137 => (if 0 ≤ (wrap64 (x10_11 - 128)) then (if (wrap64 (x10_11 - 128)) ≤ (wrap64 (x10_11 - 127)) then (if (wrap64 (x10_11 - 127)) ≤ (y137.length : Int) then (some (runesBytes ((y137.take ((wrap64 (x10_11 - 127)) : Int).toNat).drop ((wrap64 (x10_11 - 128)) : Int).toNat), wrap64 (x7_25 - a1), 2)) else (none)) else (none)) else (none))) else (some (runesBytes (([wrap32 (x10_11)] : List Int)), wrap64 (x7_25 - a1), x11_25))) else (some (runesBytes (([wrap32 (x10_11)] : List Int)), wrap64 (x7_25 - a1), x11_25))) = some (r1, r2, r3) := by rw [if_neg (show ¬ (false = true) by decide)] at H; exact H
                              clear H
                              have H := H1
                              clear H1
                              by_cases c33 : x10_11 ≥ 128
                              · rw [if_pos c33] at H
                                have c33b0 : decide (128 ≤ x10_11) = true := decide_eq_true c33
                                clear c33
                                by_cases c34 : x10_11 ≤ 159
                                · rw [if_pos c34] at H
                                  have c34b0 : decide (x10_11 ≤ 159) = true := decide_eq_true c34
                                  clear c34
                                  obtain ⟨y137, hy137⟩ : ∃ y_ : List Int, y_ = (([8364, 129, 8218, 402, 8222, 8230, 8224, 8225, 710, 8240, 352, 8249, 338, 141, 381, 143, 144, 8216, 8217, 8220, 8221, 8226, 8211, 8212, 732, 8482, 353, 8250, 339, 157, 382, 376] : List Int)) := ⟨_, rfl⟩
                                  replace H : (if 0 ≤ (wrap64 (x10_11 - 128)) then (if (wrap64 (x10_11 - 128)) ≤ (wrap64 (x10_11 - 127)) then (if (wrap64 (x10_11 - 127)) ≤ (y137.length : Int) then (some (runesBytes ((y137.take ((wrap64 (x10_11 - 127)) : Int).toNat).drop ((wrap64 (x10_11 - 128)) : Int).toNat), wrap64 (x7_25 - a1), 2)) else (none)) else (none)) else (none)) = some (r1, r2, r3) := by first | (rw [hy137]; with_reducible exact H) | (have H2_ := (Option.bind_some _ _).symm.trans H; rw [hy137]; with_reducible exact H2_) | (have H2_ := (Option.bind_some _ _).symm.trans H; with_reducible exact H2_) | with_reducible exact H | (rw [hy137]; exact H) | exact H
                                  have Ny137 := Aside0.mk hy137
                                  clear hy137
                                  obtain ⟨ji35, hji35⟩ : ∃ j_ : Int, (wrap64 (x10_11 - 128)) = j_ := ⟨_, rfl⟩
                                  replace H : (if 0 ≤ (ji35) then (if (ji35) ≤ (wrap64 (x10_11 - 127)) then (if (wrap64 (x10_11 - 127)) ≤ (y137.length : Int) then (some (runesBytes ((y137.take ((wrap64 (x10_11 - 127)) : Int).toNat).drop ((ji35) : Int).toNat), wrap64 (x7_25 - a1), 2)) else (none)) else (none)) else (none)) = some (r1, r2, r3) := by first | (rw [hji35] at H; exact H) | (simp only [hji35] at H ⊢; exact H)
                                  have hji35w : (IntKind.i64.wrap (x10_11 - 128)) = ji35 := (i64_w _).trans hji35
                                  by_cases c36 : 0 ≤ (ji35)
                                  · rw [if_pos c36] at H
                                    have c36b0 := eq_true c36
                                    have c36b1 : decide (0 ≤ (ji35)) = true := decide_eq_true c36
                                    clear c36
                                    by_cases c37 : (ji35) ≤ (wrap64 (x10_11 - 127))
                                    · rw [if_pos c37] at H
                                      have c37b0 := eq_true c37
                                      have c37b1 : decide ((ji35) ≤ (wrap64 (x10_11 - 127))) = true := decide_eq_true c37
                                      clear c37
                                      by_cases c38 : (wrap64 (x10_11 - 127)) ≤ (y137.length : Int)
                                      · rw [if_pos c38] at H
                                        have c38b0 := eq_true c38
                                        have c38b1 : decide ((wrap64 (x10_11 - 127)) ≤ (y137.length : Int)) = true := decide_eq_true c38
                                        clear c38
                                        obtain ⟨y140, hy140⟩ : ∃ y_ : List Int, y_ = ((y137.take ((wrap64 (x10_11 - 127)) : Int).toNat).drop ((ji35) : Int).toNat) := ⟨_, rfl⟩
                                        replace H : (some (runesBytes y140, wrap64 (x7_25 - a1), 2)) = some (r1, r2, r3) := by first | (rw [hy140]; with_reducible exact H) | (have H2_ := (Option.bind_some _ _).symm.trans H; rw [hy140]; with_reducible exact H2_) | (have H2_ := (Option.bind_some _ _).symm.trans H; with_reducible exact H2_) | with_reducible exact H | (rw [hy140]; exact H) | exact H
                                        have Ny140 := Aside0.mk hy140
                                        clear hy140
                                        simp only [Option.some.injEq, Prod.mk.injEq] at H
                                        obtain ⟨rfl, rfl, rfl⟩ := H
                                        go_wp2_with (first | ((with_reducible refine gate_dst (N := 96) rfl ?_); refine Kd.R_lit (Kd.int .i32) _ 21 ?hg (N := 96) ?hd (xs := ([8364, 129, 8218, 402, 8222, 8230, 8224, 8225, 710, 8240, 352, 8249, 338, 141, 381, 143, 144, 8216, 8217, 8220, 8221, 8226, 8211, 8212, 732, 8482, 353, 8250, 339, 157, 382, 376] : List Int)) (inner := [.int .i32 8364, .int .i32 129, .int .i32 8218, .int .i32 402, .int .i32 8222, .int .i32 8230, .int .i32 8224, .int .i32 8225, .int .i32 710, .int .i32 8240, .int .i32 352, .int .i32 8249, .int .i32 338, .int .i32 141, .int .i32 381, .int .i32 143, .int .i32 144, .int .i32 8216, .int .i32 8217, .int .i32 8220, .int .i32 8221, .int .i32 8226, .int .i32 8211, .int .i32 8212, .int .i32 732, .int .i32 8482, .int .i32 353, .int .i32 8250, .int .i32 339, .int .i32 157, .int .i32 382, .int .i32 376]) (ok := fun _ => True) (okp := fun _ => True) ?hr ?hp (fun _ hk => hk) trivial (Below.refl _ _) (Nat.le_refl _) (by simp) ?_; (case hd => rfl); (case hg => rfl); (case hr => first | (go_simp; done) | (go_simp; rfl)); (case hp => exact (Reps.one (show Kd.M (Kd.int .i32) _ _ _ 8364 [.int .i32 8364] from rfl) (Reps.one (show Kd.M (Kd.int .i32) _ _ _ 129 [.int .i32 129] from rfl) (Reps.one (show Kd.M (Kd.int .i32) _ _ _ 8218 [.int .i32 8218] from rfl) (Reps.one (show Kd.M (Kd.int .i32) _ _ _ 402 [.int .i32 402] from rfl) (Reps.one (show Kd.M (Kd.int .i32) _ _ _ 8222 [.int .i32 8222] from rfl) (Reps.one (show Kd.M (Kd.int .i32) _ _ _ 8230 [.int .i32 8230] from rfl) (Reps.one (show Kd.M (Kd.int .i32) _ _ _ 8224 [.int .i32 8224] from rfl) (Reps.one (show Kd.M (Kd.int .i32) _ _ _ 8225 [.int .i32 8225] from rfl) (Reps.one (show Kd.M (Kd.int .i32) _ _ _ 710 [.int .i32 710] from rfl) (Reps.one (show Kd.M (Kd.int .i32) _ _ _ 8240 [.int .i32 8240] from rfl) (Reps.one (show Kd.M (Kd.int .i32) _ _ _ 352 [.int .i32 352] from rfl) (Reps.one (show Kd.M (Kd.int .i32) _ _ _ 8249 [.int .i32 8249] from rfl) (Reps.one (show Kd.M (Kd.int .i32) _ _ _ 338 [.int .i32 338] from rfl) (Reps.one (show Kd.M (Kd.int .i32) _ _ _ 141 [.int .i32 141] from rfl) (Reps.one (show Kd.M (Kd.int .i32) _ _ _ 381 [.int .i32 381] from rfl) (Reps.one (show Kd.M (Kd.int .i32) _ _ _ 143 [.int .i32 143] from rfl) (Reps.one (show Kd.M (Kd.int .i32) _ _ _ 144 [.int .i32 144] from rfl) (Reps.one (show Kd.M (Kd.int .i32) _ _ _ 8216 [.int .i32 8216] from rfl) (Reps.one (show Kd.M (Kd.int .i32) _ _ _ 8217 [.int .i32 8217] from rfl) (Reps.one (show Kd.M (Kd.int .i32) _ _ _ 8220 [.int .i32 8220] from rfl) (Reps.one (show Kd.M (Kd.int .i32) _ _ _ 8221 [.int .i32 8221] from rfl) (Reps.one (show Kd.M (Kd.int .i32) _ _ _ 8226 [.int .i32 8226] from rfl) (Reps.one (show Kd.M (Kd.int .i32) _ _ _ 8211 [.int .i32 8211] from rfl) (Reps.one (show Kd.M (Kd.int .i32) _ _ _ 8212 [.int .i32 8212] from rfl) (Reps.one (show Kd.M (Kd.int .i32) _ _ _ 732 [.int .i32 732] from rfl) (Reps.one (show Kd.M (Kd.int .i32) _ _ _ 8482 [.int .i32 8482] from rfl) (Reps.one (show Kd.M (Kd.int .i32) _ _ _ 353 [.int .i32 353] from rfl) (Reps.one (show Kd.M (Kd.int .i32) _ _ _ 8250 [.int .i32 8250] from rfl) (Reps.one (show Kd.M (Kd.int .i32) _ _ _ 339 [.int .i32 339] from rfl) (Reps.one (show Kd.M (Kd.int .i32) _ _ _ 157 [.int .i32 157] from rfl) (Reps.one (show Kd.M (Kd.int .i32) _ _ _ 382 [.int .i32 382] from rfl) (Reps.one (show Kd.M (Kd.int .i32) _ _ _ 376 [.int .i32 376] from rfl) (Reps.none _ _)))))))))))))))))))))))))))))))))); intro v138 w39 ho40 hb hg_ hnew_; clear hg_ hnew_; (first | rw [← Ny137.out] at ho40 | (simp only [Int.reduceToNat] at ho40; rw [← Ny137.out] at ho40)); have n0_ := Aside0.mk (Kd.R_lower ho40 (below_size (by repeat (first | (with_reducible first | exact HB.out | apply below_alloc | apply pw_below_drewN | apply below_drew1) | exact HB.out)))); have n1_ := Aside0.mk (below_step (by repeat (first | (with_reducible first | exact HB.out | apply below_alloc | apply pw_below_drewN | apply below_drew1) | exact HB.out)) hb); clear HB; have HO139 := n0_; have HB := n1_; clear n0_ n1_; clear hb ho40; obtain ⟨Ao42, co42, eo42⟩ := Kd.R_slice HO139.out; subst eo42; have q41 : ((wrap64 (x10_11 - 127)) : Int) ≤ ((y137.length : Int) : Int) := of_decide_eq_true (by first | (with_reducible assumption) | assumption); obtain ⟨i041, hi041, _, hsz41, _⟩ := info_parts info21; have hroom41 : y137.length ≤ co42 := (Kd.R_reads' HO139.out).2.1; have hC41 : Kd.C (Kd.int .i32) _ Ao42 y137.length y137 := (Kd.R_reads' HO139.out).2.2; have ql41 : ((ji35) : Int) ≤ ((wrap64 (x10_11 - 127)) : Int) := of_decide_eq_true (by first | (with_reducible assumption) | assumption); have q041 : (0 : Int) ≤ ((ji35) : Int) := of_decide_eq_true (by first | (with_reducible assumption) | assumption); have hcut41 := cut_mid (P := Try.prog) 55 21 .i64 .i64 Try.underlying55 hi041 1 hsz41 Ao42 y137.length co42 (ji35) (wrap64 (x10_11 - 127)) q041 ql41 q41 hroom41; have hr41 := Kd.C_mid (lo := ((ji35) : Int).toNat) (hi := ((wrap64 (x10_11 - 127)) : Int).toNat) (c := co42) hC41 (by omega) (by omega) hroom41; obtain ⟨A41, hA41⟩ : ∃ A1, A1 = (if co42 = ((ji35) : Int).toNat then Ao42 else (Ao42 : Option Addr).map (·.add (((ji35) : Int).toNat * 1))) := ⟨_, rfl⟩; obtain ⟨c41, hc41⟩ : ∃ c1, c1 = co42 - ((ji35) : Int).toNat := ⟨_, rfl⟩; have hy41 : y140.length = ((wrap64 (x10_11 - 127)) : Int).toNat - ((ji35) : Int).toNat := (by rw [Ny140.out, List.length_drop, List.length_take] <;> omega); rw [show ((y137).take ((wrap64 (x10_11 - 127)) : Int).toNat).drop ((ji35) : Int).toNat = y140 from Ny140.out.symm] at hr41; replace hr41 : Kd.C (Kd.int .i32) _ A41 y140.length y140 := (by rw [hA41]; exact hr41); rw [← hy41, ← hA41, ← hc41] at hcut41; have HR143 := Aside0.mk hr41; have HC143 := Aside0.mk (show y140.length ≤ c41 from by rw [hy41, hc41]; exact Nat.sub_le_sub_right (Nat.le_trans (by omega) hroom41) _); clear hr41 hC41 hroom41 hi041 hsz41 hc41; have KY41 := Aside0.mk hy41; have KA41 := Aside0.mk hA41; clear hy41 hA41; have KL41 := Aside0.mk (show ((wrap64 (x10_11 - 127)) : Int).toNat ≤ y137.length from by omega); have KM41 := Aside0.mk (show ((ji35) : Int).toNat ≤ ((wrap64 (x10_11 - 127)) : Int).toNat from by omega); replace q41 := eq_true q41; have hcv43 := C_runes (P := Try.prog) (A := A41) (c := c41) Try.underlying55 Try.underlying21 Try.underlying9 (by repeat (first | (with_reducible exact HR143.out) | (with_reducible refine Kd.C_alloc ?_ _) | (with_reducible refine Kd.C_drewN ?_ _) | (with_reducible refine Kd.C_drew ?_) | exact HR143.out))))
                                        go_ret3
                                        exact ⟨by first | rfl | (simp [errW_none, errW_some] <;> rfl) | (simp only [← hji35]; first | rfl | (simp [errW_none, errW_some] <;> rfl)) | (simp [*, errW_none, errW_some] <;> rfl), by repeat (first | (with_reducible first | exact HB.out | apply below_alloc | apply pw_below_drewN | apply below_drew1) | exact HB.out)⟩
                                      · rw [if_neg c38] at H
                                        exact absurd H (by simp)
                                    · rw [if_neg c37] at H
                                      exact absurd H (by simp)
                                  · rw [if_neg c36] at H
                                    exact absurd H (by simp)
                                · rw [if_neg c34] at H
                                  have c34b0 : decide (x10_11 ≤ 159) = false := decide_eq_false c34
                                  clear c34
                                  obtain ⟨y144, hy144⟩ : ∃ y_ : List Int, y_ = (([wrap32 (x10_11)] : List Int)) := ⟨_, rfl⟩
                                  replace H : (some (runesBytes y144, wrap64 (x7_25 - a1), x11_25)) = some (r1, r2, r3) := by first | (rw [hy144]; with_reducible exact H) | (have H2_ := (Option.bind_some _ _).symm.trans H; rw [hy144]; with_reducible exact H2_) | (have H2_ := (Option.bind_some _ _).symm.trans H; with_reducible exact H2_) | with_reducible exact H | (rw [hy144]; exact H) | exact H
                                  have Ny144 := Aside0.mk hy144
                                  clear hy144
                                  simp only [Option.some.injEq, Prod.mk.injEq] at H
                                  obtain ⟨rfl, rfl, rfl⟩ := H
                                  go_wp2_with (first | ((with_reducible refine gate_dst (N := 109) rfl ?_); refine Kd.R_lit (Kd.int .i32) _ 21 ?hg (N := 109) ?hd (xs := ([wrap32 (x10_11)] : List Int)) (inner := [.int .i32 (wrap32 (x10_11))]) (ok := fun _ => True) (okp := fun _ => True) ?hr ?hp (fun _ hk => hk) trivial (Below.refl _ _) (Nat.le_refl _) (by simp) ?_; (case hd => rfl); (case hg => rfl); (case hr => first | (go_simp; done) | (go_simp; rfl)); (case hp => exact (Reps.one (show Kd.M (Kd.int .i32) _ _ _ (wrap32 (x10_11)) [.int .i32 (wrap32 (x10_11))] from rfl) (Reps.none _ _))); intro v145 w44 ho45 hb hg_ hnew_; clear hg_ hnew_; (first | rw [← Ny144.out] at ho45 | (simp only [Int.reduceToNat] at ho45; rw [← Ny144.out] at ho45)); have n0_ := Aside0.mk (Kd.R_lower ho45 (below_size (by repeat (first | (with_reducible first | exact HB.out | apply below_alloc | apply pw_below_drewN | apply below_drew1) | exact HB.out)))); have n1_ := Aside0.mk (below_step (by repeat (first | (with_reducible first | exact HB.out | apply below_alloc | apply pw_below_drewN | apply below_drew1) | exact HB.out)) hb); clear HB; have HO146 := n0_; have HB := n1_; clear n0_ n1_; clear hb ho45; have hcv46 := own_runes (P := Try.prog) Try.underlying55 Try.underlying21 Try.underlying9 (Kd.own_of_R HO146.out)))
                                  go_ret3
                                  exact ⟨by first | rfl | (simp [errW_none, errW_some] <;> rfl) | (simp [*, errW_none, errW_some] <;> rfl), by repeat (first | (with_reducible first | exact HB.out | apply below_alloc | apply pw_below_drewN | apply below_drew1) | exact HB.out)⟩
                              · rw [if_neg c33] at H
                                have c33b0 : decide (128 ≤ x10_11) = false := decide_eq_false c33
                                clear c33
                                obtain ⟨y147, hy147⟩ : ∃ y_ : List Int, y_ = (([wrap32 (x10_11)] : List Int)) := ⟨_, rfl⟩
                                replace H : (some (runesBytes y147, wrap64 (x7_25 - a1), x11_25)) = some (r1, r2, r3) := by first | (rw [hy147]; with_reducible exact H) | (have H2_ := (Option.bind_some _ _).symm.trans H; rw [hy147]; with_reducible exact H2_) | (have H2_ := (Option.bind_some _ _).symm.trans H; with_reducible exact H2_) | with_reducible exact H | (rw [hy147]; exact H) | exact H
                                have Ny147 := Aside0.mk hy147
                                clear hy147
                                simp only [Option.some.injEq, Prod.mk.injEq] at H
                                obtain ⟨rfl, rfl, rfl⟩ := H
                                go_wp2_with (first | ((with_reducible refine gate_dst (N := 109) rfl ?_); refine Kd.R_lit (Kd.int .i32) _ 21 ?hg (N := 109) ?hd (xs := ([wrap32 (x10_11)] : List Int)) (inner := [.int .i32 (wrap32 (x10_11))]) (ok := fun _ => True) (okp := fun _ => True) ?hr ?hp (fun _ hk => hk) trivial (Below.refl _ _) (Nat.le_refl _) (by simp) ?_; (case hd => rfl); (case hg => rfl); (case hr => first | (go_simp; done) | (go_simp; rfl)); (case hp => exact (Reps.one (show Kd.M (Kd.int .i32) _ _ _ (wrap32 (x10_11)) [.int .i32 (wrap32 (x10_11))] from rfl) (Reps.none _ _))); intro v148 w47 ho48 hb hg_ hnew_; clear hg_ hnew_; (first | rw [← Ny147.out] at ho48 | (simp only [Int.reduceToNat] at ho48; rw [← Ny147.out] at ho48)); have n0_ := Aside0.mk (Kd.R_lower ho48 (below_size (by repeat (first | (with_reducible first | exact HB.out | apply below_alloc | apply pw_below_drewN | apply below_drew1) | exact HB.out)))); have n1_ := Aside0.mk (below_step (by repeat (first | (with_reducible first | exact HB.out | apply below_alloc | apply pw_below_drewN | apply below_drew1) | exact HB.out)) hb); clear HB; have HO149 := n0_; have HB := n1_; clear n0_ n1_; clear hb ho48; have hcv49 := own_runes (P := Try.prog) Try.underlying55 Try.underlying21 Try.underlying9 (Kd.own_of_R HO149.out)))
                                go_ret3
                                exact ⟨by first | rfl | (simp [errW_none, errW_some] <;> rfl) | (simp [*, errW_none, errW_some] <;> rfl), by repeat (first | (with_reducible first | exact HB.out | apply below_alloc | apply pw_below_drewN | apply below_drew1) | exact HB.out)⟩

end Go.Proofs.Ytebcdfdkgjcmmaa.P
