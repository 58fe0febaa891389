-- Written by wip/tools/gprint.py of this session, over the kit's print. Lean checks it.
import Derived.Test.YtoejbjmdcokojaaDoorPx0
import Derived.Test.YtoejbjmdcokojaaDoorPx3
namespace Go.Proofs.YtoejbjmdcokojaaDoor.P
open Go.Proofs.YtoejbjmdcokojaaDoor.Hand
open Go.RowKit Go.Proofs.YtoejbjmdcokojaaDoorW.PrintWords Go.Proofs.YtoejbjmdcokojaaDoorW.PrintLast Go.Proofs.YtoejbjmdcokojaaDoorW.PrintMore
attribute [local go_sem] max2_int min2_int max_two min_two max_three min_three max_four min_four   -- for this text's walks alone
attribute [local go_sem] Go.IntKind.wrap_u32 conv_bytes
set_option linter.unusedVariables false
set_option linter.unusedSimpArgs false

/-! ### portiereref01_Decode: function 15 -/
mutual
def portiereref01_Decode.j0 : Nat → List Int → Bool → Option (ByteArray)
  | 0, _, _ => none
  | k + 1, x0, x28 => if x28 = true then (if 3 ≤ (x0.length : Int) then (portiereref01_Decode.j1 k (x0.drop 3)) else (none)) else (portiereref01_Decode.j1 k x0)
def portiereref01_Decode.j1 : Nat → List Int → Option (ByteArray)
  | 0, _ => none
  | k + 1, x0 => portiereref01_Decode.l0 k x0 ([] : List Int) 0
def portiereref01_Decode.l0 : Nat → List Int → List Int → Int → Option (ByteArray)
  | 0, _, _, _ => none
  | k + 1, x0, x3, x4 => if x4 < (x0.length : Int) then (if 0 ≤ x4 then (if x4 ≤ (x0.length : Int) then ((portiereref01_right.f k (x0.drop (x4 : Int).toNat)).bind fun t119 => ((portiereref01_more.f k (rd x0 x4)).bind fun t121 => (if t121 = (wrap64 (t119 - 1)) then (if x4 ≤ (wrap64 (x4 + t119)) then (if (wrap64 (x4 + t119)) ≤ (x0.length : Int) then ((some ((x0.take ((wrap64 (x4 + t119)) : Int).toNat).drop (x4 : Int).toNat : List Int)).bind fun y122 => (if x3.length + y122.length < 140737488355328 then (portiereref01_Decode.l0 k x0 (x3 ++ y122) (wrap64 (x4 + t119))) else (none))) else (none)) else (none)) else ((some (([239, 191, 189] : List Int) : List Int)).bind fun y130 => (if x3.length + y130.length < 140737488355328 then (portiereref01_Decode.l0 k x0 (x3 ++ y130) (wrap64 (x4 + t119))) else (none)))))) else (none)) else (none)) else (portiereref01_Decode.l1 k x3 ([] : List Int) 0)
def portiereref01_Decode.l1 : Nat → List Int → List Int → Int → Option (ByteArray)
  | 0, _, _, _ => none
  | k + 1, x3, x6, x7 => if x7 < (x3.length : Int) then (if 0 ≤ x7 then (if (rd x3 x7) = 13 then (if (wrap64 (x7 + 1)) ≥ (x3.length : Int) then (if x6.length < 140737488355328 then (portiereref01_Decode.l1 k x3 (x6 ++ [10]) (wrap64 (x7 + 1))) else (none)) else (if 0 ≤ (wrap64 (x7 + 1)) then (if (wrap64 (x7 + 1)) < (x3.length : Int) then (if (rd x3 (wrap64 (x7 + 1))) = 10 then (portiereref01_Decode.l1 k x3 x6 (wrap64 (x7 + 1))) else (if x6.length < 140737488355328 then (portiereref01_Decode.l1 k x3 (x6 ++ [10]) (wrap64 (x7 + 1))) else (none))) else (none)) else (none))) else (if x6.length < 140737488355328 then (portiereref01_Decode.l1 k x3 (x6 ++ [rd x3 x7]) (wrap64 (x7 + 1))) else (none))) else (none)) else (some (strOfNums x6))
end
def portiereref01_Decode.f (k : Nat) (l0 : List Int) : Option (ByteArray) := if (l0.length : Int) ≥ 3 then (if 0 < (l0.length : Int) then (if (rd l0 0) = 239 then (if 1 < (l0.length : Int) then (if (rd l0 1) = 187 then (if 2 < (l0.length : Int) then (portiereref01_Decode.j0 k l0 ((rd l0 2) == 191)) else (none)) else (portiereref01_Decode.j0 k l0 false)) else (none)) else (portiereref01_Decode.j0 k l0 false)) else (none)) else (portiereref01_Decode.j0 k l0 false)
theorem portiereref01_Decode.mono_l : ∀ k, (∀ y0 y1, LeO (portiereref01_Decode.j0 k y0 y1) (portiereref01_Decode.j0 (k + 1) y0 y1)) ∧ (∀ y0, LeO (portiereref01_Decode.j1 k y0) (portiereref01_Decode.j1 (k + 1) y0)) ∧ (∀ y0 y1 y2, LeO (portiereref01_Decode.l0 k y0 y1 y2) (portiereref01_Decode.l0 (k + 1) y0 y1 y2)) ∧ (∀ y0 y1 y2, LeO (portiereref01_Decode.l1 k y0 y1 y2) (portiereref01_Decode.l1 (k + 1) y0 y1 y2))
  | 0 => ⟨fun _ _ r h => by simp [portiereref01_Decode.j0] at h, fun _ r h => by simp [portiereref01_Decode.j1] at h, fun _ _ _ r h => by simp [portiereref01_Decode.l0] at h, fun _ _ _ r h => by simp [portiereref01_Decode.l1] at h⟩
  | k + 1 => by
    obtain ⟨ih0, ih1, ih2, ih3⟩ := portiereref01_Decode.mono_l k
    refine ⟨?_, ?_, ?_, ?_⟩
    · intro y0 y1
      unfold portiereref01_Decode.j0
      repeat' first
      | (with_reducible exact ih0 _ _)
      | (with_reducible exact ih1 _)
      | (with_reducible exact ih2 _ _ _)
      | (with_reducible exact ih3 _ _ _)
      | (with_reducible exact portiereref01_more.mono _ _)
      | (with_reducible exact portiereref01_right.mono _ _)
      | (with_reducible exact LeO.refl _)
      | (with_reducible exact LeO.none _)
      | (with_reducible refine LeO.ite ?_ ?_)
      | (with_reducible refine LeO.bind ?_ (fun _ => ?_))
      | exact ih0 _ _
      | exact ih1 _
      | exact ih2 _ _ _
      | exact ih3 _ _ _
      | exact portiereref01_more.mono _ _
      | exact portiereref01_right.mono _ _
      | exact LeO.none _
      | refine LeO.ite ?_ ?_
      | refine LeO.bind ?_ (fun _ => ?_)
    · intro y0
      unfold portiereref01_Decode.j1
      repeat' first
      | (with_reducible exact ih0 _ _)
      | (with_reducible exact ih1 _)
      | (with_reducible exact ih2 _ _ _)
      | (with_reducible exact ih3 _ _ _)
      | (with_reducible exact portiereref01_more.mono _ _)
      | (with_reducible exact portiereref01_right.mono _ _)
      | (with_reducible exact LeO.refl _)
      | (with_reducible exact LeO.none _)
      | (with_reducible refine LeO.ite ?_ ?_)
      | (with_reducible refine LeO.bind ?_ (fun _ => ?_))
      | exact ih0 _ _
      | exact ih1 _
      | exact ih2 _ _ _
      | exact ih3 _ _ _
      | exact portiereref01_more.mono _ _
      | exact portiereref01_right.mono _ _
      | exact LeO.none _
      | refine LeO.ite ?_ ?_
      | refine LeO.bind ?_ (fun _ => ?_)
    · intro y0 y1 y2
      unfold portiereref01_Decode.l0
      repeat' first
      | (with_reducible exact ih0 _ _)
      | (with_reducible exact ih1 _)
      | (with_reducible exact ih2 _ _ _)
      | (with_reducible exact ih3 _ _ _)
      | (with_reducible exact portiereref01_more.mono _ _)
      | (with_reducible exact portiereref01_right.mono _ _)
      | (with_reducible exact LeO.refl _)
      | (with_reducible exact LeO.none _)
      | (with_reducible refine LeO.ite ?_ ?_)
      | (with_reducible refine LeO.bind ?_ (fun _ => ?_))
      | exact ih0 _ _
      | exact ih1 _
      | exact ih2 _ _ _
      | exact ih3 _ _ _
      | exact portiereref01_more.mono _ _
      | exact portiereref01_right.mono _ _
      | exact LeO.none _
      | refine LeO.ite ?_ ?_
      | refine LeO.bind ?_ (fun _ => ?_)
    · intro y0 y1 y2
      unfold portiereref01_Decode.l1
      repeat' first
      | (with_reducible exact ih0 _ _)
      | (with_reducible exact ih1 _)
      | (with_reducible exact ih2 _ _ _)
      | (with_reducible exact ih3 _ _ _)
      | (with_reducible exact portiereref01_more.mono _ _)
      | (with_reducible exact portiereref01_right.mono _ _)
      | (with_reducible exact LeO.refl _)
      | (with_reducible exact LeO.none _)
      | (with_reducible refine LeO.ite ?_ ?_)
      | (with_reducible refine LeO.bind ?_ (fun _ => ?_))
      | exact ih0 _ _
      | exact ih1 _
      | exact ih2 _ _ _
      | exact ih3 _ _ _
      | exact portiereref01_more.mono _ _
      | exact portiereref01_right.mono _ _
      | exact LeO.none _
      | refine LeO.ite ?_ ?_
      | refine LeO.bind ?_ (fun _ => ?_)
theorem portiereref01_Decode.mono : ∀ a0 k, LeO (portiereref01_Decode.f k a0) (portiereref01_Decode.f (k + 1) a0) := by
  intro a0 k
  obtain ⟨ih0, ih1, ih2, ih3⟩ := portiereref01_Decode.mono_l k
  unfold portiereref01_Decode.f
  repeat' first
      | (with_reducible exact ih0 _ _)
      | (with_reducible exact ih1 _)
      | (with_reducible exact ih2 _ _ _)
      | (with_reducible exact ih3 _ _ _)
      | (with_reducible exact portiereref01_more.mono _ _)
      | (with_reducible exact portiereref01_right.mono _ _)
      | (with_reducible exact LeO.refl _)
      | (with_reducible exact LeO.none _)
      | (with_reducible refine LeO.ite ?_ ?_)
      | (with_reducible refine LeO.bind ?_ (fun _ => ?_))
      | exact ih0 _ _
      | exact ih1 _
      | exact ih2 _ _ _
      | exact ih3 _ _ _
      | exact portiereref01_more.mono _ _
      | exact portiereref01_right.mono _ _
      | exact LeO.none _
      | refine LeO.ite ?_ ?_
      | refine LeO.bind ?_ (fun _ => ?_)
set_option maxHeartbeats 8000000 in
set_option maxRecDepth 100000 in
theorem portiereref01_Decode.calls (k : Nat) (P0_ : Nat → Prop) (A0 : Option Addr) (c0 : Nat) (l0 : List Int) (r : ByteArray) (w : World) (hs0 : Kd.V (Kd.int .u8) 5 w w.heap.size (fun k_ => P0_ k_) (.slice A0 l0.length c0) l0) (h : portiereref01_Decode.f k l0 = some r) :
    Calls Tryd.prog 15 #[.slice A0 l0.length c0] w fun e w' => e = .returned (.string r) ∧ Below w.heap.size w w' := by
  have HO0 := Aside0.mk (show Kd.V (Kd.int .u8) 5 w w.heap.size (fun k_ => (P0_ k_ ∨ w.heap.size ≤ k_)) (.slice A0 l0.length c0) l0 from Kd.V_mono hs0 (fun k_ hk => .inl hk))
  have HB := Aside0.mk (Below.refl w.heap.size w)
  have H : (if (l0.length : Int) ≥ 3 then (if 0 < (l0.length : Int) then (if (rd l0 0) = 239 then (if 1 < (l0.length : Int) then (if (rd l0 1) = 187 then (if 2 < (l0.length : Int) then (portiereref01_Decode.j0 k l0 ((rd l0 2) == 191)) else (none)) else (portiereref01_Decode.j0 k l0 false)) else (none)) else (portiereref01_Decode.j0 k l0 false)) else (none)) else (portiereref01_Decode.j0 k l0 false)) = some r := h
  clear h
  have HC2 := Aside0.mk H
  clear H
  go_enter Tryd.func15, Tryd.ntmps15
  go_upto_region 1 with (fail)
  go_cut [28] (fun v28 wc => ∃ (kq : Nat) (x28_1 : Bool), v28 = .bool x28_1 ∧ Aside0 (portiereref01_Decode.j0 kq l0 x28_1 = some r) ∧ Aside0 (kq ≤ k) ∧ Aside0 (Kd.V (Kd.int .u8) 5 wc w.heap.size (fun k_ => (P0_ k_ ∨ w.heap.size ≤ k_)) (.slice A0 l0.length c0) l0) ∧ Aside0 (Below w.heap.size w wc))
  case first =>
    have H := HC2.out
    clear HC2
    by_cases c3 : (l0.length : Int) ≥ 3
    · rw [if_pos c3] at H
      have c3b0 : decide (3 ≤ (l0.length : Int)) = true := decide_eq_true c3
      have c3b1 : decide (3 ≤ l0.length) = true := decide_eq_true (by omega)
      clear c3
      (first | rw [c3b0] | (simp only [i64_w, i32_w]; rw [c3b0]) | skip)
      by_cases c4 : 0 < (l0.length : Int)
      · rw [if_pos c4] at H
        have c4b0 : decide (0 < (l0.length : Int)) = true := decide_eq_true c4
        have c4b1 : decide (0 < l0.length) = true := decide_eq_true (by omega)
        clear c4
        by_cases c5 : (rd l0 0) = 239
        · rw [if_pos c5] at H
          have c5b0 : ((rd l0 0) == 239) = true := beq_iff_eq.mpr c5
          have c5b1 : ((rd l0 0) != 239) = false := bne_eq_false_iff_eq.mpr c5
          clear c5
          by_cases c6 : 1 < (l0.length : Int)
          · rw [if_pos c6] at H
            have c6b0 : decide (1 < (l0.length : Int)) = true := decide_eq_true c6
            have c6b1 : decide (1 < l0.length) = true := decide_eq_true (by omega)
            clear c6
            by_cases c7 : (rd l0 1) = 187
            · rw [if_pos c7] at H
              have c7b0 : ((rd l0 1) == 187) = true := beq_iff_eq.mpr c7
              have c7b1 : ((rd l0 1) != 187) = false := bne_eq_false_iff_eq.mpr c7
              clear c7
              by_cases c8 : 2 < (l0.length : Int)
              · rw [if_pos c8] at H
                have c8b0 : decide (2 < (l0.length : Int)) = true := decide_eq_true c8
                have c8b1 : decide (2 < l0.length) = true := decide_eq_true (by omega)
                clear c8
                have H' := Aside0.mk H
                clear H
                have p106 : 0 ≤ (0 : Int) := (by omega)
                have q106 : 0 < (l0.length : Int) := of_decide_eq_true (by first | (with_reducible assumption) | assumption)
                obtain ⟨ad106, e106, hx106_0⟩ := Kd.at_int (Kd.V_reads' HO0.out).2.2 0 p106 q106
                cases e106
                have qi106 : (0 < l0.length) = True := eq_true (by omega)
                (try rw [show ((0 : Int)).toNat = 0 from rfl] at hx106_0)
                (try rw [Addr.add_zero'] at hx106_0)
                replace p106 := eq_true p106
                replace q106 := eq_true q106
                have p107 : 0 ≤ (1 : Int) := (by omega)
                have q107 : 1 < (l0.length : Int) := of_decide_eq_true (by first | (with_reducible assumption) | assumption)
                obtain ⟨ad107, e107, hx107_0⟩ := Kd.at_int (Kd.V_reads' HO0.out).2.2 1 p107 q107
                obtain rfl : ad106 = ad107 := (by injection e107)
                (try simp only [show (1 : Int).toNat = 1 from rfl, Nat.reduceMul, Nat.reduceEqDiff, Go.Addr.add, ↓reduceIte] at hx107_0)
                have qi107 : (1 < l0.length) = True := eq_true (by omega)
                (try rw [show ((1 : Int)).toNat = 1 from rfl] at hx107_0)
                replace p107 := eq_true p107
                replace q107 := eq_true q107
                have p108 : 0 ≤ (2 : Int) := (by omega)
                have q108 : 2 < (l0.length : Int) := of_decide_eq_true (by first | (with_reducible assumption) | assumption)
                obtain ⟨ad108, e108, hx108_0⟩ := Kd.at_int (Kd.V_reads' HO0.out).2.2 2 p108 q108
                obtain rfl : ad106 = ad108 := (by injection e108)
                (try simp only [show (2 : Int).toNat = 2 from rfl, Nat.reduceMul, Nat.reduceEqDiff, Go.Addr.add, ↓reduceIte] at hx108_0)
                have qi108 : (2 < l0.length) = True := eq_true (by omega)
                (try rw [show ((2 : Int)).toNat = 2 from rfl] at hx108_0)
                replace p108 := eq_true p108
                replace q108 := eq_true q108
                go_wp2
                go_meet
                case rel => exact ⟨_, (((rd l0 2) == 191)), (by first | rfl | (simp; done) | (simp [*]; done)), H', ⟨by first | omega | exact Nat.le_refl _⟩, ⟨by (with_reducible repeat (first | apply Kd.V_alloc | apply Kd.V_drewN | apply Kd.V_drew)); exact HO0.out⟩, ⟨by repeat (first | (with_reducible first | exact HB.out | apply below_alloc | apply pw_below_drewN | apply below_drew1) | exact HB.out)⟩⟩
              · rw [if_neg c8] at H
                exact absurd H (by simp)
            · rw [if_neg c7] at H
              have c7b0 : ((rd l0 1) == 187) = false := beq_eq_false_iff_ne.mpr c7
              have c7b1 : ((rd l0 1) != 187) = true := bne_iff_ne.mpr c7
              have H' := Aside0.mk H
              clear H
              have p106 : 0 ≤ (0 : Int) := (by omega)
              have q106 : 0 < (l0.length : Int) := of_decide_eq_true (by first | (with_reducible assumption) | assumption)
              obtain ⟨ad106, e106, hx106_0⟩ := Kd.at_int (Kd.V_reads' HO0.out).2.2 0 p106 q106
              cases e106
              have qi106 : (0 < l0.length) = True := eq_true (by omega)
              (try rw [show ((0 : Int)).toNat = 0 from rfl] at hx106_0)
              (try rw [Addr.add_zero'] at hx106_0)
              replace p106 := eq_true p106
              replace q106 := eq_true q106
              have p107 : 0 ≤ (1 : Int) := (by omega)
              have q107 : 1 < (l0.length : Int) := of_decide_eq_true (by first | (with_reducible assumption) | assumption)
              obtain ⟨ad107, e107, hx107_0⟩ := Kd.at_int (Kd.V_reads' HO0.out).2.2 1 p107 q107
              obtain rfl : ad106 = ad107 := (by injection e107)
              (try simp only [show (1 : Int).toNat = 1 from rfl, Nat.reduceMul, Nat.reduceEqDiff, Go.Addr.add, ↓reduceIte] at hx107_0)
              have qi107 : (1 < l0.length) = True := eq_true (by omega)
              (try rw [show ((1 : Int)).toNat = 1 from rfl] at hx107_0)
              replace p107 := eq_true p107
              replace q107 := eq_true q107
              go_wp2
              go_meet
              case rel => exact ⟨_, (false), (by first | rfl | (simp; done) | (simp [*]; done)), H', ⟨by first | omega | exact Nat.le_refl _⟩, ⟨by (with_reducible repeat (first | apply Kd.V_alloc | apply Kd.V_drewN | apply Kd.V_drew)); exact HO0.out⟩, ⟨by repeat (first | (with_reducible first | exact HB.out | apply below_alloc | apply pw_below_drewN | apply below_drew1) | exact HB.out)⟩⟩
          · rw [if_neg c6] at H
            exact absurd H (by simp)
        · rw [if_neg c5] at H
          have c5b0 : ((rd l0 0) == 239) = false := beq_eq_false_iff_ne.mpr c5
          have c5b1 : ((rd l0 0) != 239) = true := bne_iff_ne.mpr c5
          have H' := Aside0.mk H
          clear H
          have p106 : 0 ≤ (0 : Int) := (by omega)
          have q106 : 0 < (l0.length : Int) := of_decide_eq_true (by first | (with_reducible assumption) | assumption)
          obtain ⟨ad106, e106, hx106_0⟩ := Kd.at_int (Kd.V_reads' HO0.out).2.2 0 p106 q106
          cases e106
          have qi106 : (0 < l0.length) = True := eq_true (by omega)
          (try rw [show ((0 : Int)).toNat = 0 from rfl] at hx106_0)
          (try rw [Addr.add_zero'] at hx106_0)
          replace p106 := eq_true p106
          replace q106 := eq_true q106
          go_wp2
          go_meet
          case rel => exact ⟨_, (false), (by first | rfl | (simp; done) | (simp [*]; done)), H', ⟨by first | omega | exact Nat.le_refl _⟩, ⟨by (with_reducible repeat (first | apply Kd.V_alloc | apply Kd.V_drewN | apply Kd.V_drew)); exact HO0.out⟩, ⟨by repeat (first | (with_reducible first | exact HB.out | apply below_alloc | apply pw_below_drewN | apply below_drew1) | exact HB.out)⟩⟩
      · rw [if_neg c4] at H
        exact absurd H (by simp)
    · rw [if_neg c3] at H
      have c3b0 : decide (3 ≤ (l0.length : Int)) = false := decide_eq_false c3
      have c3b1 : decide (3 ≤ l0.length) = false := decide_eq_false (by omega)
      clear c3
      (first | rw [c3b0] | (simp only [i64_w, i32_w]; rw [c3b0]) | skip)
      have H' := Aside0.mk H
      clear H
      go_wp2
      go_meet
      case rel => exact ⟨_, (false), (by first | rfl | (simp; done) | (simp [*]; done)), H', ⟨by first | omega | exact Nat.le_refl _⟩, ⟨by (with_reducible repeat (first | apply Kd.V_alloc | apply Kd.V_drewN | apply Kd.V_drew)); exact HO0.out⟩, ⟨by repeat (first | (with_reducible first | exact HB.out | apply below_alloc | apply pw_below_drewN | apply below_drew1) | exact HB.out)⟩⟩
  case rest =>
    clear HC2
    try clear c1
    try clear p1
    try clear q1
    try clear hx1
    try clear qi1
    try clear p2
    try clear c3
    try clear c3b0
    try clear c3b1
    try clear c4
    try clear c4b0
    try clear c4b1
    try clear c5
    try clear c5b0
    try clear c5b1
    try clear c6
    try clear c6b0
    try clear c6b1
    try clear c7
    try clear c7b0
    try clear c7b1
    try clear c8
    try clear c8b0
    try clear c8b1
    try clear hx106_0
    try clear hx107_0
    try clear hx108_0
    try clear p106
    try clear p107
    try clear p108
    try clear q106
    try clear q107
    try clear q108
    obtain ⟨kq, x28_1, rfl, HA, HJ1, HO_0, HB⟩ := hcut
    cases kq with
    | zero => exact absurd HA.out (by simp [portiereref01_Decode.j0])
    | succ kj1 =>
      have H := HA.out
      clear HA
      simp only [portiereref01_Decode.j0] at H
      have HC9 := Aside0.mk H
      clear H
      go_upto_if 28 with (fail)
      go_cut [0] (fun v0 wc => ∃ (kq : Nat) (x0_8 : List Int), Aside0 (portiereref01_Decode.j1 kq x0_8 = some r) ∧ Aside0 (kq ≤ kj1) ∧ Aside0 (Kd.V (Kd.int .u8) 5 wc w.heap.size (fun k_ => (P0_ k_ ∨ w.heap.size ≤ k_)) v0 x0_8) ∧ Aside0 (Below w.heap.size w wc))
      case first =>
        have H := HC9.out
        clear HC9
        by_cases c10 : x28_1 = true
        · subst c10
          have H1 : (if 3 ≤ (l0.length : Int) then (portiereref01_Decode.j1 kj1 (l0.drop 3)) else (none)) = some r := by rw [if_pos rfl] at H; exact H
          clear H
          have H := H1
          clear H1
          by_cases c11 : 3 ≤ (l0.length : Int)
          · rw [if_pos c11] at H
            have c11b0 := eq_true c11
            have c11b1 : decide (3 ≤ (l0.length : Int)) = true := decide_eq_true c11
            clear c11
            obtain ⟨y109, hy109⟩ : ∃ y_ : List Int, y_ = (l0.drop 3) := ⟨_, rfl⟩
            replace H : (portiereref01_Decode.j1 kj1 y109) = some r := by first | (rw [hy109]; with_reducible exact H) | (have H2_ := (Option.bind_some _ _).symm.trans H; rw [hy109]; with_reducible exact H2_) | (have H2_ := (Option.bind_some _ _).symm.trans H; with_reducible exact H2_) | with_reducible exact H | (rw [hy109]; exact H) | exact H
            have Ny109 := Aside0.mk hy109
            clear hy109
            have H' := Aside0.mk H
            clear H
            have q12 : (3 : Int) ≤ ((l0.length : Int) : Int) := of_decide_eq_true (by first | (with_reducible assumption) | assumption)
            obtain ⟨i012, hi012, _, hsz12, _⟩ := info_parts info5
            have hroom12 : l0.length ≤ c0 := (Kd.V_reads' HO_0.out).2.1
            have hC12 : Kd.F (Kd.int .u8) _ _ A0 l0.length l0 := (Kd.V_at (base := w.heap.size) HO_0.out).2.2
            have hcut12 := cut_from (P := Tryd.prog) 23 5 .i64 Tryd.underlying23 hi012 1 hsz12 A0 l0.length c0 3 (by omega) q12
            have hr12 := Kd.F_cut (m := (3 : Int).toNat) (c := c0) hC12 (by omega) hroom12
            obtain ⟨A12, hA12⟩ : ∃ A1, A1 = (if c0 = (3 : Int).toNat then A0 else (A0 : Option Addr).map (·.add ((3 : Int).toNat * 1))) := ⟨_, rfl⟩
            obtain ⟨c12, hc12⟩ : ∃ c1, c1 = c0 - (3 : Int).toNat := ⟨_, rfl⟩
            have hy12 : y109.length = l0.length - (3 : Int).toNat := (by rw [Ny109.out, List.length_drop] <;> omega)
            rw [show (l0).drop (3 : Int).toNat = y109 from Ny109.out.symm] at hr12
            replace hr12 : Kd.F (Kd.int .u8) _ _ A12 y109.length y109 := (by rw [hA12]; exact hr12)
            rw [← hy12, ← hA12, ← hc12] at hcut12
            have HO113 := Aside0.mk (show Kd.V (Kd.int .u8) 5 _ w.heap.size _ (.slice A12 y109.length c12) y109 from Kd.V_mk (by rw [hy12, hc12]; exact Nat.sub_le_sub_right hroom12 _) hr12)
            have HC113 := Aside0.mk (show y109.length ≤ c12 from by rw [hy12, hc12]; exact Nat.sub_le_sub_right hroom12 _)
            clear hr12 hC12 hroom12 hi012 hsz12 hc12
            have KY12 := Aside0.mk hy12
            have KA12 := Aside0.mk hA12
            clear hy12 hA12
            replace q12 := eq_true q12
            go_wp2
            go_meet
            case rel => exact ⟨_, (y109), H', ⟨by have := HJ1.out; first | omega | exact Nat.le_refl _⟩, ⟨by (with_reducible repeat (first | apply Kd.V_alloc | apply Kd.V_drewN | apply Kd.V_drew)); exact HO113.out⟩, ⟨by repeat (first | (with_reducible first | exact HB.out | apply below_alloc | apply pw_below_drewN | apply below_drew1) | exact HB.out)⟩⟩
          · rw [if_neg c11] at H
            exact absurd H (by simp)
        · replace c10 := Bool.eq_false_iff.mpr c10
          subst c10
          have H1 : (portiereref01_Decode.j1 kj1 l0) = some r := by rw [if_neg (show ¬ (false = true) by decide)] at H; exact H
          clear H
          have H := H1
          clear H1
          have H' := Aside0.mk H
          clear H
          go_wp2
          go_meet
          case rel => exact ⟨_, (l0), H', ⟨by have := HJ1.out; first | omega | exact Nat.le_refl _⟩, ⟨by (with_reducible repeat (first | apply Kd.V_alloc | apply Kd.V_drewN | apply Kd.V_drew)); exact HO_0.out⟩, ⟨by repeat (first | (with_reducible first | exact HB.out | apply below_alloc | apply pw_below_drewN | apply below_drew1) | exact HB.out)⟩⟩
      case rest =>
        clear HC9
        try clear c1
        try clear p1
        try clear q1
        try clear hx1
        try clear qi1
        try clear p2
        try clear c3
        try clear c3b0
        try clear c3b1
        try clear c4
        try clear c4b0
        try clear c4b1
        try clear c5
        try clear c5b0
        try clear c5b1
        try clear c6
        try clear c6b0
        try clear c6b1
        try clear c7
        try clear c7b0
        try clear c7b1
        try clear c8
        try clear c8b0
        try clear c8b1
        try clear c10
        try clear p10
        try clear q10
        try clear hx10
        try clear qi10
        try clear c11
        try clear c11b0
        try clear c11b1
        try clear c12
        try clear q12
        try clear hx106_0
        try clear hx107_0
        try clear hx108_0
        try clear p1
        try clear p106
        try clear p107
        try clear p108
        try clear p2
        try clear q1
        try clear q106
        try clear q107
        try clear q108
        try clear q12
        obtain ⟨kq, x0_8, HA, HJ8, HO_0, HB⟩ := hcut
        cases kq with
        | zero => exact absurd HA.out (by simp [portiereref01_Decode.j1])
        | succ kj8 =>
          have H := HA.out
          clear HA
          simp only [portiereref01_Decode.j1] at H
          have H' := Aside0.mk H
          clear H
          go_wp2
          go_loopg [3, 4] kj8 (fun kq v3 v4 w' => ∃ (x3_3 : List Int) (x4_3 : Int), v4 = .int .i64 x4_3 ∧ Aside0 (portiereref01_Decode.l0 kq x0_8 x3_3 x4_3 = some r) ∧ Aside0 (kq ≤ kj8) ∧ Aside0 (Kd.V (Kd.int .u8) 5 w' w.heap.size (fun k_ => (P0_ k_ ∨ w.heap.size ≤ k_) ∧ some k_ ≠ (v3 : Value).ownBlock) u0 x0_8) ∧ Aside0 (Kd.R (Kd.int .u8) 5 w' w.heap.size (fun k_ => (w.heap.size ≤ k_)) v3 x3_3) ∧ Aside0 (Below w.heap.size w w'))
          case atStart => exact ⟨(([] : List Int)), (0), (by first | rfl | (simp; done) | (simp [*]; done)), H', ⟨Nat.le_refl _⟩, ⟨by (with_reducible repeat (first | apply Kd.V_alloc | apply Kd.V_drewN | apply Kd.V_drew)); exact Kd.V_mono HO_0.out (fun _ hk => ⟨hk, (by simp [Value.ownBlock])⟩)⟩, ⟨by first | exact Kd.R_nil _ _ _ _ _ | exact Kd.N_nil _ _ _ _ _ | exact Kd.V_nil _ _ _ _ _ | exact Kd.Q_nil _ _ _ _ _ | exact Kd.S_nil _ _ _ _ _⟩, ⟨by repeat (first | (with_reducible first | exact HB.out | apply below_alloc | apply pw_below_drewN | apply below_drew1) | exact HB.out)⟩⟩
          case round =>
            clear H'
            try clear c1
            try clear p1
            try clear q1
            try clear hx1
            try clear qi1
            try clear p2
            try clear c3
            try clear c3b0
            try clear c3b1
            try clear c4
            try clear c4b0
            try clear c4b1
            try clear c5
            try clear c5b0
            try clear c5b1
            try clear c6
            try clear c6b0
            try clear c6b1
            try clear c7
            try clear c7b0
            try clear c7b1
            try clear c8
            try clear c8b0
            try clear c8b1
            try clear c10
            try clear p10
            try clear q10
            try clear hx10
            try clear qi10
            try clear c11
            try clear c11b0
            try clear c11b1
            try clear c12
            try clear q12
            try clear hx106_0
            try clear hx107_0
            try clear hx108_0
            try clear p1
            try clear p10
            try clear p106
            try clear p107
            try clear p108
            try clear p2
            try clear q1
            try clear q10
            try clear q106
            try clear q107
            try clear q108
            try clear q12
            obtain ⟨x3_3, x4_3, rfl, HA, HK3, HO_0, HO_3, HB⟩ := hrel
            cases gk with
            | zero => exact absurd HA.out (by simp [portiereref01_Decode.l0])
            | succ k3 =>
              have H := HA.out
              clear HA
              simp only [portiereref01_Decode.l0] at H
              by_cases c13 : x4_3 < (x0_8.length : Int)
              · rw [if_pos c13] at H
                have c13b0 : decide (x4_3 < (x0_8.length : Int)) = true := decide_eq_true c13
                clear c13
                by_cases c14 : 0 ≤ x4_3
                · rw [if_pos c14] at H
                  have c14b0 := eq_true c14
                  have c14b1 : decide (0 ≤ x4_3) = true := decide_eq_true c14
                  clear c14
                  by_cases c15 : x4_3 ≤ (x0_8.length : Int)
                  · rw [if_pos c15] at H
                    have c15b0 := eq_true c15
                    have c15b1 : decide (x4_3 ≤ (x0_8.length : Int)) = true := decide_eq_true c15
                    clear c15
                    obtain ⟨y114, hy114⟩ : ∃ y_ : List Int, y_ = (x0_8.drop (x4_3 : Int).toNat) := ⟨_, rfl⟩
                    replace H : ((portiereref01_right.f k3 y114).bind fun t119 => ((portiereref01_more.f k3 (rd x0_8 x4_3)).bind fun t121 => (if t121 = (wrap64 (t119 - 1)) then (if x4_3 ≤ (wrap64 (x4_3 + t119)) then (if (wrap64 (x4_3 + t119)) ≤ (x0_8.length : Int) then ((some ((x0_8.take ((wrap64 (x4_3 + t119)) : Int).toNat).drop (x4_3 : Int).toNat : List Int)).bind fun y122 => (if x3_3.length + y122.length < 140737488355328 then (portiereref01_Decode.l0 k3 x0_8 (x3_3 ++ y122) (wrap64 (x4_3 + t119))) else (none))) else (none)) else (none)) else ((some (([239, 191, 189] : List Int) : List Int)).bind fun y130 => (if x3_3.length + y130.length < 140737488355328 then (portiereref01_Decode.l0 k3 x0_8 (x3_3 ++ y130) (wrap64 (x4_3 + t119))) else (none)))))) = some r := by first | (rw [hy114]; with_reducible exact H) | (have H2_ := (Option.bind_some _ _).symm.trans H; rw [hy114]; with_reducible exact H2_) | (have H2_ := (Option.bind_some _ _).symm.trans H; with_reducible exact H2_) | with_reducible exact H | (rw [hy114]; exact H) | exact H
                    have Ny114 := Aside0.mk hy114
                    clear hy114
                    replace H := Option.bind_eq_some_iff.mp H
                    obtain ⟨t119, A160, H⟩ := H
                    replace H : ((portiereref01_more.f k3 (rd x0_8 x4_3)).bind fun t121 => (if t121 = (wrap64 (t119 - 1)) then (if x4_3 ≤ (wrap64 (x4_3 + t119)) then (if (wrap64 (x4_3 + t119)) ≤ (x0_8.length : Int) then ((some ((x0_8.take ((wrap64 (x4_3 + t119)) : Int).toNat).drop (x4_3 : Int).toNat : List Int)).bind fun y122 => (if x3_3.length + y122.length < 140737488355328 then (portiereref01_Decode.l0 k3 x0_8 (x3_3 ++ y122) (wrap64 (x4_3 + t119))) else (none))) else (none)) else (none)) else ((some (([239, 191, 189] : List Int) : List Int)).bind fun y130 => (if x3_3.length + y130.length < 140737488355328 then (portiereref01_Decode.l0 k3 x0_8 (x3_3 ++ y130) (wrap64 (x4_3 + t119))) else (none))))) = some r := H
                    have A16 := Aside0.mk A160
                    clear A160
                    replace H := Option.bind_eq_some_iff.mp H
                    obtain ⟨t121, A170, H⟩ := H
                    replace H : (if t121 = (wrap64 (t119 - 1)) then (if x4_3 ≤ (wrap64 (x4_3 + t119)) then (if (wrap64 (x4_3 + t119)) ≤ (x0_8.length : Int) then ((some ((x0_8.take ((wrap64 (x4_3 + t119)) : Int).toNat).drop (x4_3 : Int).toNat : List Int)).bind fun y122 => (if x3_3.length + y122.length < 140737488355328 then (portiereref01_Decode.l0 k3 x0_8 (x3_3 ++ y122) (wrap64 (x4_3 + t119))) else (none))) else (none)) else (none)) else ((some (([239, 191, 189] : List Int) : List Int)).bind fun y130 => (if x3_3.length + y130.length < 140737488355328 then (portiereref01_Decode.l0 k3 x0_8 (x3_3 ++ y130) (wrap64 (x4_3 + t119))) else (none)))) = some r := H
                    have A17 := Aside0.mk A170
                    clear A170
                    by_cases c18 : t121 = (wrap64 (t119 - 1))
                    · rw [if_pos c18] at H
                      (try (have c18u : (t121 = ((t119 - 1))) := by (have h_ := c18; unfold wrap64 at h_; omega)))
                      (try (have c18ub0 : (t121 == ((t119 - 1))) = true := beq_iff_eq.mpr c18u))
                      (try (have c18ub1 : (t121 != ((t119 - 1))) = false := bne_eq_false_iff_eq.mpr c18u))
                      (try clear c18u)
                      have c18b0 : (t121 == (wrap64 (t119 - 1))) = true := beq_iff_eq.mpr c18
                      have c18b1 : (t121 != (wrap64 (t119 - 1))) = false := bne_eq_false_iff_eq.mpr c18
                      clear c18
                      have c19b0 := eq_true (of_decide_eq_true (by first | (with_reducible assumption) | assumption) : 0 ≤ x4_3)
                      by_cases c20 : x4_3 ≤ (wrap64 (x4_3 + t119))
                      · rw [if_pos c20] at H
                        have c20b0 := eq_true c20
                        have c20b1 : decide (x4_3 ≤ (wrap64 (x4_3 + t119))) = true := decide_eq_true c20
                        by_cases c21 : (wrap64 (x4_3 + t119)) ≤ (x0_8.length : Int)
                        · rw [if_pos c21] at H
                          have c21b0 := eq_true c21
                          have c21b1 : decide ((wrap64 (x4_3 + t119)) ≤ (x0_8.length : Int)) = true := decide_eq_true c21
                          obtain ⟨y122, hy122⟩ : ∃ y_ : List Int, y_ = ((x0_8.take ((wrap64 (x4_3 + t119)) : Int).toNat).drop (x4_3 : Int).toNat) := ⟨_, rfl⟩
                          replace H : (if x3_3.length + y122.length < 140737488355328 then (portiereref01_Decode.l0 k3 x0_8 (x3_3 ++ y122) (wrap64 (x4_3 + t119))) else (none)) = some r := by first | (rw [hy122]; with_reducible exact H) | (have H2_ := (Option.bind_some _ _).symm.trans H; rw [hy122]; with_reducible exact H2_) | (have H2_ := (Option.bind_some _ _).symm.trans H; with_reducible exact H2_) | with_reducible exact H | (rw [hy122]; exact H) | exact H
                          have Ny122 := Aside0.mk hy122
                          clear hy122
                          by_cases c22 : x3_3.length + y122.length < 140737488355328
                          · rw [if_pos c22] at H
                            have LMc22 := Aside0.mk c22
                            clear c22
                            obtain ⟨y127, hy127⟩ : ∃ y_ : List Int, y_ = (x3_3 ++ y122) := ⟨_, rfl⟩
                            replace H : (portiereref01_Decode.l0 k3 x0_8 y127 (wrap64 (x4_3 + t119))) = some r := by first | (rw [hy127]; with_reducible exact H) | (have H2_ := (Option.bind_some _ _).symm.trans H; rw [hy127]; with_reducible exact H2_) | (have H2_ := (Option.bind_some _ _).symm.trans H; with_reducible exact H2_) | with_reducible exact H | (rw [hy127]; exact H) | exact H
                            have Ny127 := Aside0.mk hy127
                            clear hy127
                            have H' := Aside0.mk H
                            clear H
                            obtain ⟨Ao23, co23, eo23⟩ := Kd.V_slice HO_0.out
                            subst eo23
                            have q24 : (x4_3 : Int) ≤ ((x0_8.length : Int) : Int) := of_decide_eq_true (by first | (with_reducible assumption) | assumption)
                            obtain ⟨i024, hi024, _, hsz24, _⟩ := info_parts info5
                            have hroom24 : x0_8.length ≤ co23 := (Kd.V_reads' HO_0.out).2.1
                            have hC24 : Kd.F (Kd.int .u8) _ _ Ao23 x0_8.length x0_8 := (Kd.V_at (base := w.heap.size) HO_0.out).2.2
                            have q024 : (0 : Int) ≤ (x4_3 : Int) := of_decide_eq_true (by first | (with_reducible assumption) | assumption)
                            have hcut24 := cut_from (P := Tryd.prog) 23 5 .i64 Tryd.underlying23 hi024 1 hsz24 Ao23 x0_8.length co23 x4_3 q024 q24
                            have hr24 := Kd.F_cut (m := (x4_3 : Int).toNat) (c := co23) hC24 (by omega) hroom24
                            obtain ⟨A24, hA24⟩ : ∃ A1, A1 = (if co23 = (x4_3 : Int).toNat then Ao23 else (Ao23 : Option Addr).map (·.add ((x4_3 : Int).toNat * 1))) := ⟨_, rfl⟩
                            obtain ⟨c24, hc24⟩ : ∃ c1, c1 = co23 - (x4_3 : Int).toNat := ⟨_, rfl⟩
                            have hy24 : y114.length = x0_8.length - (x4_3 : Int).toNat := (by rw [Ny114.out, List.length_drop] <;> omega)
                            rw [show (x0_8).drop (x4_3 : Int).toNat = y114 from Ny114.out.symm] at hr24
                            replace hr24 : Kd.F (Kd.int .u8) _ _ A24 y114.length y114 := (by rw [hA24]; exact hr24)
                            rw [← hy24, ← hA24, ← hc24] at hcut24
                            have HO118 := Aside0.mk (show Kd.V (Kd.int .u8) 5 _ w.heap.size _ (.slice A24 y114.length c24) y114 from Kd.V_mk (by rw [hy24, hc24]; exact Nat.sub_le_sub_right hroom24 _) hr24)
                            have HC118 := Aside0.mk (show y114.length ≤ c24 from by rw [hy24, hc24]; exact Nat.sub_le_sub_right hroom24 _)
                            clear hr24 hC24 hroom24 hi024 hsz24 hc24
                            have KY24 := Aside0.mk hy24
                            have KA24 := Aside0.mk hA24
                            clear hy24 hA24
                            replace q24 := eq_true q24
                            go_wp2_with (first | ((with_reducible refine gate_callee (f := 20) rfl ?_); refine goesL_ (some 38) rfl rfl Tryd.func20 (by kernel_rfl) rfl #[.slice A24 y114.length c24] rfl (by (try simp only [List.map_toArray, List.map_cons, List.map_nil]); first | done | rfl | (simp only [List.length_drop, List.length_take]; rfl)) ?_; (with_reducible refine (portiereref01_right.calls k3 _ _ y114 t119 _ ?side1 ?side2 A16.out).mono ?_); (case side1 => repeat (first | exact (Kd.V_reads' HO118.out).2.2 | (with_reducible refine Kd.C_alloc ?_ _) | (with_reducible refine Kd.C_drewN ?_ _) | (with_reducible refine Kd.C_drew ?_))); (case side2 => exact (Kd.V_reads' HO118.out).2.1); rintro e w' ⟨rfl, ⟨nd, rfl⟩⟩; refine ⟨_, rfl, ?_⟩; have p120 : 0 ≤ (x4_3 : Int) := of_decide_eq_true (by first | (with_reducible assumption) | assumption); have q120 : x4_3 < (x0_8.length : Int) := of_decide_eq_true (by first | (with_reducible assumption) | assumption); obtain ⟨ad120, e120, hx120_0⟩ := Kd.at_int (Kd.V_reads' HO_0.out).2.2 x4_3 p120 q120; cases e120; replace p120 := eq_true p120; replace q120 := eq_true q120) | ((with_reducible refine gate_callee (f := 21) rfl ?_); refine goesL_ (some 43) rfl rfl Tryd.func21 (by kernel_rfl) rfl #[.int .u8 (rd x0_8 x4_3)] rfl (by (try simp only [List.map_toArray, List.map_cons, List.map_nil]); first | done | rfl | (simp only [List.length_drop, List.length_take]; rfl)) ?_; (with_reducible refine (portiereref01_more.calls k3 (rd x0_8 x4_3) t121 _ A17.out).mono ?_); rintro e w' ⟨rfl, ⟨nd, rfl⟩⟩; refine ⟨_, rfl, ?_⟩; have q25 : ((wrap64 (x4_3 + t119)) : Int) ≤ ((x0_8.length : Int) : Int) := of_decide_eq_true (by first | (with_reducible assumption) | assumption); obtain ⟨i025, hi025, _, hsz25, _⟩ := info_parts info5; have hroom25 : x0_8.length ≤ co23 := (Kd.V_reads' HO_0.out).2.1; have hC25 : Kd.F (Kd.int .u8) _ _ (some ad120) x0_8.length x0_8 := (Kd.V_at (base := w.heap.size) HO_0.out).2.2; have ql25 : (x4_3 : Int) ≤ ((wrap64 (x4_3 + t119)) : Int) := of_decide_eq_true (by first | (with_reducible assumption) | assumption); have q025 : (0 : Int) ≤ (x4_3 : Int) := of_decide_eq_true (by first | (with_reducible assumption) | assumption); have hcut25 := cut_mid (P := Tryd.prog) 23 5 .i64 .i64 Tryd.underlying23 hi025 1 hsz25 (some ad120) x0_8.length co23 x4_3 (wrap64 (x4_3 + t119)) q025 ql25 q25 hroom25; have hr25 := Kd.F_mid (lo := (x4_3 : Int).toNat) (hi := ((wrap64 (x4_3 + t119)) : Int).toNat) (c := co23) hC25 (by omega) (by omega) hroom25; obtain ⟨A25, hA25⟩ : ∃ A1, A1 = (if co23 = (x4_3 : Int).toNat then (some ad120) else ((some ad120) : Option Addr).map (·.add ((x4_3 : Int).toNat * 1))) := ⟨_, rfl⟩; obtain ⟨c25, hc25⟩ : ∃ c1, c1 = co23 - (x4_3 : Int).toNat := ⟨_, rfl⟩; have hy25 : y122.length = ((wrap64 (x4_3 + t119)) : Int).toNat - (x4_3 : Int).toNat := (by rw [Ny122.out, List.length_drop, List.length_take] <;> omega); rw [show ((x0_8).take ((wrap64 (x4_3 + t119)) : Int).toNat).drop (x4_3 : Int).toNat = y122 from Ny122.out.symm] at hr25; replace hr25 : Kd.F (Kd.int .u8) _ _ A25 y122.length y122 := (by rw [hA25]; exact hr25); rw [← hy25, ← hA25, ← hc25] at hcut25; have HO126 := Aside0.mk (show Kd.V (Kd.int .u8) 5 _ w.heap.size _ (.slice A25 y122.length c25) y122 from Kd.V_mk (by rw [hy25, hc25]; exact Nat.sub_le_sub_right (Nat.le_trans (by omega) hroom25) _) hr25); have HC126 := Aside0.mk (show y122.length ≤ c25 from by rw [hy25, hc25]; exact Nat.sub_le_sub_right (Nat.le_trans (by omega) hroom25) _); clear hr25 hC25 hroom25 hi025 hsz25 hc25; have KY25 := Aside0.mk hy25; have KA25 := Aside0.mk hA25; clear hy25 hA25; replace q25 := eq_true q25) | ((with_reducible refine gate_builtin (b := .append) (xs := #[.tmp 47, .tmp 53]) rfl ?_); at_builtin; refine Kd.R_append_rows (Kd.int .u8) (w0 := w) w.heap.size rfl (.tmp 47) (.tmp 53) 23 5 (.int .u8 0) 1 rfl Tryd.underlying23 info5 rfl (by decide) (by omega) u3 x3_3 y122 _ _ _ (fun k_ => (w.heap.size ≤ k_)) (fun _ => False) rfl rfl ?aO ?aR (fun _ _ h => h) (fun _ h => h.elim) ?aF ?aB ?aS ?aL ?_; (case aR => repeat (first | exact (Kd.V_reads' HO126.out).2.2 | (with_reducible refine Kd.C_alloc ?_ _) | (with_reducible refine Kd.C_drewN ?_ _) | (with_reducible refine Kd.C_drew ?_))); (case aB => exact (by repeat (first | (with_reducible first | exact HB.out | apply below_alloc | apply pw_below_drewN | apply below_drew1) | exact HB.out))); (case aF => exact (fun k_ hk => (Nat.le_trans (below_size (by repeat (first | (with_reducible first | exact HB.out | apply below_alloc | apply pw_below_drewN | apply below_drew1) | exact HB.out))) hk))); (case aO => exact (by (with_reducible repeat (first | apply Kd.R_alloc | apply Kd.R_drewN | apply Kd.R_drew)); exact HO_3.out)); (case aS => exact (below_size (by repeat (first | (with_reducible first | exact HB.out | apply below_alloc | apply pw_below_drewN | apply below_drew1) | exact HB.out)))); (case aL => have := LMc22.out; omega); intro v128 w26 ho hb hg hat; rw [← Ny127.out] at ho; have n0_ := Aside0.mk (Kd.V_afterv (ok := (fun k_ => (P0_ k_ ∨ w.heap.size ≤ k_))) (by (with_reducible repeat (first | apply Kd.V_alloc | apply Kd.V_drewN | apply Kd.V_drew)); exact HO_0.out) hg hat); have n1_ := Aside0.mk (Kd.V_afterv (ok := (fun k_ => (P0_ k_ ∨ w.heap.size ≤ k_))) (by (with_reducible repeat (first | apply Kd.V_alloc | apply Kd.V_drewN | apply Kd.V_drew)); exact HO118.out) hg hat); have n2_ := Aside0.mk (Kd.V_afterv (ok := (fun k_ => (P0_ k_ ∨ w.heap.size ≤ k_))) (by (with_reducible repeat (first | apply Kd.V_alloc | apply Kd.V_drewN | apply Kd.V_drew)); exact HO126.out) hg hat); have n3_ := Aside0.mk (hb); have n4_ := Aside0.mk (ho); clear HO_0; clear HO118; clear HO126; clear HB; clear HO_3; have HO_0 := n0_; have HO118 := n1_; have HO126 := n2_; have HB := n3_; have HO129 := n4_; clear n0_ n1_ n2_ n3_ n4_; clear ho hb hg hat))
                            go_roundg k3
                            case measure => have := HJ1.out; have := HJ8.out; have := HK3.out; omega
                            case rel => exact ⟨(y127), (wrap64 (x4_3 + t119)), (by first | rfl | (simp; done) | (simp [*]; done)), H', ⟨by have := HJ1.out; have := HJ8.out; have := HK3.out; omega⟩, ⟨by (with_reducible repeat (first | apply Kd.V_alloc | apply Kd.V_drewN | apply Kd.V_drew)); exact HO_0.out⟩, ⟨by (with_reducible repeat (first | apply Kd.R_alloc | apply Kd.R_drewN | apply Kd.R_drew)); exact HO129.out⟩, ⟨by repeat (first | (with_reducible first | exact HB.out | apply below_alloc | apply pw_below_drewN | apply below_drew1) | exact HB.out)⟩⟩
                          · rw [if_neg c22] at H
                            exact absurd H (by simp)
                        · rw [if_neg c21] at H
                          exact absurd H (by simp)
                      · rw [if_neg c20] at H
                        exact absurd H (by simp)
                    · rw [if_neg c18] at H
                      (try (have c18u : ¬ (t121 = ((t119 - 1))) := by (have h_ := c18; unfold wrap64 at h_; omega)))
                      (try (have c18ub0 : (t121 == ((t119 - 1))) = false := beq_eq_false_iff_ne.mpr c18u))
                      (try (have c18ub1 : (t121 != ((t119 - 1))) = true := bne_iff_ne.mpr c18u))
                      have c18b0 : (t121 == (wrap64 (t119 - 1))) = false := beq_eq_false_iff_ne.mpr c18
                      have c18b1 : (t121 != (wrap64 (t119 - 1))) = true := bne_iff_ne.mpr c18
                      obtain ⟨y130, hy130⟩ : ∃ y_ : List Int, y_ = (([239, 191, 189] : List Int)) := ⟨_, rfl⟩
                      replace H : (if x3_3.length + y130.length < 140737488355328 then (portiereref01_Decode.l0 k3 x0_8 (x3_3 ++ y130) (wrap64 (x4_3 + t119))) else (none)) = some r := by first | (rw [hy130]; with_reducible exact H) | (have H2_ := (Option.bind_some _ _).symm.trans H; rw [hy130]; with_reducible exact H2_) | (have H2_ := (Option.bind_some _ _).symm.trans H; with_reducible exact H2_) | with_reducible exact H | (rw [hy130]; exact H) | exact H
                      have Ny130 := Aside0.mk hy130
                      clear hy130
                      by_cases c27 : x3_3.length + y130.length < 140737488355328
                      · rw [if_pos c27] at H
                        have LMc27 := Aside0.mk c27
                        clear c27
                        obtain ⟨y133, hy133⟩ : ∃ y_ : List Int, y_ = (x3_3 ++ y130) := ⟨_, rfl⟩
                        replace H : (portiereref01_Decode.l0 k3 x0_8 y133 (wrap64 (x4_3 + t119))) = some r := by first | (rw [hy133]; with_reducible exact H) | (have H2_ := (Option.bind_some _ _).symm.trans H; rw [hy133]; with_reducible exact H2_) | (have H2_ := (Option.bind_some _ _).symm.trans H; with_reducible exact H2_) | with_reducible exact H | (rw [hy133]; exact H) | exact H
                        have Ny133 := Aside0.mk hy133
                        clear hy133
                        have H' := Aside0.mk H
                        clear H
                        obtain ⟨Ao28, co28, eo28⟩ := Kd.V_slice HO_0.out
                        subst eo28
                        have q29 : (x4_3 : Int) ≤ ((x0_8.length : Int) : Int) := of_decide_eq_true (by first | (with_reducible assumption) | assumption)
                        obtain ⟨i029, hi029, _, hsz29, _⟩ := info_parts info5
                        have hroom29 : x0_8.length ≤ co28 := (Kd.V_reads' HO_0.out).2.1
                        have hC29 : Kd.F (Kd.int .u8) _ _ Ao28 x0_8.length x0_8 := (Kd.V_at (base := w.heap.size) HO_0.out).2.2
                        have q029 : (0 : Int) ≤ (x4_3 : Int) := of_decide_eq_true (by first | (with_reducible assumption) | assumption)
                        have hcut29 := cut_from (P := Tryd.prog) 23 5 .i64 Tryd.underlying23 hi029 1 hsz29 Ao28 x0_8.length co28 x4_3 q029 q29
                        have hr29 := Kd.F_cut (m := (x4_3 : Int).toNat) (c := co28) hC29 (by omega) hroom29
                        obtain ⟨A29, hA29⟩ : ∃ A1, A1 = (if co28 = (x4_3 : Int).toNat then Ao28 else (Ao28 : Option Addr).map (·.add ((x4_3 : Int).toNat * 1))) := ⟨_, rfl⟩
                        obtain ⟨c29, hc29⟩ : ∃ c1, c1 = co28 - (x4_3 : Int).toNat := ⟨_, rfl⟩
                        have hy29 : y114.length = x0_8.length - (x4_3 : Int).toNat := (by rw [Ny114.out, List.length_drop] <;> omega)
                        rw [show (x0_8).drop (x4_3 : Int).toNat = y114 from Ny114.out.symm] at hr29
                        replace hr29 : Kd.F (Kd.int .u8) _ _ A29 y114.length y114 := (by rw [hA29]; exact hr29)
                        rw [← hy29, ← hA29, ← hc29] at hcut29
                        have HO118 := Aside0.mk (show Kd.V (Kd.int .u8) 5 _ w.heap.size _ (.slice A29 y114.length c29) y114 from Kd.V_mk (by rw [hy29, hc29]; exact Nat.sub_le_sub_right hroom29 _) hr29)
                        have HC118 := Aside0.mk (show y114.length ≤ c29 from by rw [hy29, hc29]; exact Nat.sub_le_sub_right hroom29 _)
                        clear hr29 hC29 hroom29 hi029 hsz29 hc29
                        have KY29 := Aside0.mk hy29
                        have KA29 := Aside0.mk hA29
                        clear hy29 hA29
                        replace q29 := eq_true q29
                        go_wp2_with (first | ((with_reducible refine gate_callee (f := 20) rfl ?_); refine goesL_ (some 38) rfl rfl Tryd.func20 (by kernel_rfl) rfl #[.slice A29 y114.length c29] rfl (by (try simp only [List.map_toArray, List.map_cons, List.map_nil]); first | done | rfl | (simp only [List.length_drop, List.length_take]; rfl)) ?_; (with_reducible refine (portiereref01_right.calls k3 _ _ y114 t119 _ ?side1 ?side2 A16.out).mono ?_); (case side1 => repeat (first | exact (Kd.V_reads' HO118.out).2.2 | (with_reducible refine Kd.C_alloc ?_ _) | (with_reducible refine Kd.C_drewN ?_ _) | (with_reducible refine Kd.C_drew ?_))); (case side2 => exact (Kd.V_reads' HO118.out).2.1); rintro e w' ⟨rfl, ⟨nd, rfl⟩⟩; refine ⟨_, rfl, ?_⟩; have p120 : 0 ≤ (x4_3 : Int) := of_decide_eq_true (by first | (with_reducible assumption) | assumption); have q120 : x4_3 < (x0_8.length : Int) := of_decide_eq_true (by first | (with_reducible assumption) | assumption); obtain ⟨ad120, e120, hx120_0⟩ := Kd.at_int (Kd.V_reads' HO_0.out).2.2 x4_3 p120 q120; cases e120; replace p120 := eq_true p120; replace q120 := eq_true q120) | ((with_reducible refine gate_callee (f := 21) rfl ?_); refine goesL_ (some 43) rfl rfl Tryd.func21 (by kernel_rfl) rfl #[.int .u8 (rd x0_8 x4_3)] rfl (by (try simp only [List.map_toArray, List.map_cons, List.map_nil]); first | done | rfl | (simp only [List.length_drop, List.length_take]; rfl)) ?_; (with_reducible refine (portiereref01_more.calls k3 (rd x0_8 x4_3) t121 _ A17.out).mono ?_); rintro e w' ⟨rfl, ⟨nd, rfl⟩⟩; refine ⟨_, rfl, ?_⟩) | ((with_reducible refine gate_dst (N := 56) rfl ?_); refine Kd.R_lit (Kd.int .u8) _ 5 ?hg (N := 56) ?hd (xs := ([239, 191, 189] : List Int)) (inner := [.int .u8 239, .int .u8 191, .int .u8 189]) (ok := fun _ => True) (okp := fun _ => True) ?hr ?hp (fun _ hk => hk) trivial (Below.refl _ _) (Nat.le_refl _) (by simp) ?_; (case hd => rfl); (case hg => rfl); (case hr => first | (go_simp; done) | (go_simp; rfl)); (case hp => exact (Reps.one (show Kd.M (Kd.int .u8) _ _ _ 239 [.int .u8 239] from rfl) (Reps.one (show Kd.M (Kd.int .u8) _ _ _ 191 [.int .u8 191] from rfl) (Reps.one (show Kd.M (Kd.int .u8) _ _ _ 189 [.int .u8 189] from rfl) (Reps.none _ _))))); intro v131 w30 ho31 hb hg_ hnew_; clear hg_ hnew_; (first | rw [← Ny130.out] at ho31 | (simp only [Int.reduceToNat] at ho31; rw [← Ny130.out] at ho31)); have n0_ := Aside0.mk (Kd.V_elder' (by (with_reducible repeat (first | apply Kd.V_alloc | apply Kd.V_drewN | apply Kd.V_drew)); exact HO_0.out) (Kd.R_base ho31) hb); have n1_ := Aside0.mk (Kd.R_elder' (by (with_reducible repeat (first | apply Kd.R_alloc | apply Kd.R_drewN | apply Kd.R_drew)); exact HO_3.out) (Kd.R_base ho31) hb); have n2_ := Aside0.mk (Kd.V_elder' (by (with_reducible repeat (first | apply Kd.V_alloc | apply Kd.V_drewN | apply Kd.V_drew)); exact HO118.out) (Kd.R_base ho31) hb); have n3_ := Aside0.mk (Kd.R_lower (Kd.R_new' (Kd.R_newM (M := fun k_ => (w.heap.size ≤ k_)) ho31 (below_size (by repeat (first | (with_reducible first | exact HB.out | apply below_alloc | apply pw_below_drewN | apply below_drew1) | exact HB.out))) (fun k_ h_ => h_)) (Kd.R_lt (by (with_reducible repeat (first | apply Kd.R_alloc | apply Kd.R_drewN | apply Kd.R_drew)); exact HO_3.out))) (below_size (by repeat (first | (with_reducible first | exact HB.out | apply below_alloc | apply pw_below_drewN | apply below_drew1) | exact HB.out)))); have n4_ := Aside0.mk (below_step (by repeat (first | (with_reducible first | exact HB.out | apply below_alloc | apply pw_below_drewN | apply below_drew1) | exact HB.out)) hb); clear HO_0; clear HO_3; clear HO118; clear HB; have HO_0 := n0_; have HO_3 := n1_; have HO118 := n2_; have HO132 := n3_; have HB := n4_; clear n0_ n1_ n2_ n3_ n4_; clear hb ho31; obtain ⟨Ao33, co33, eo33⟩ := Kd.R_slice HO132.out; subst eo33) | ((with_reducible refine gate_builtin (b := .append) (xs := #[.tmp 55, .tmp 56]) rfl ?_); at_builtin; refine Kd.R_append_rows (Kd.int .u8) (w0 := w) w.heap.size rfl (.tmp 55) (.tmp 56) 23 5 (.int .u8 0) 1 rfl Tryd.underlying23 info5 rfl (by decide) (by omega) u3 x3_3 y130 _ _ _ (fun k_ => (w.heap.size ≤ k_) ∧ some k_ ≠ (.slice Ao33 y130.length co33 : Value).ownBlock) (fun _ => False) rfl rfl ?aO ?aR (fun _ _ h => h) (fun _ h => h.elim) ?aF ?aB ?aS ?aL ?_; (case aR => repeat (first | exact (Kd.R_reads' HO132.out).2.2 | (with_reducible refine Kd.C_alloc ?_ _) | (with_reducible refine Kd.C_drewN ?_ _) | (with_reducible refine Kd.C_drew ?_))); (case aB => exact (by repeat (first | (with_reducible first | exact HB.out | apply below_alloc | apply pw_below_drewN | apply below_drew1) | exact HB.out))); (case aF => exact (fun k_ hk => ⟨(Nat.le_trans (below_size (by repeat (first | (with_reducible first | exact HB.out | apply below_alloc | apply pw_below_drewN | apply below_drew1) | exact HB.out))) hk), Kd.fresh' (Kd.R_lt (by (with_reducible repeat (first | apply Kd.R_alloc | apply Kd.R_drewN | apply Kd.R_drew)); exact HO132.out)) k_ hk⟩)); (case aO => exact (by (with_reducible repeat (first | apply Kd.R_alloc | apply Kd.R_drewN | apply Kd.R_drew)); exact HO_3.out)); (case aS => exact (below_size (by repeat (first | (with_reducible first | exact HB.out | apply below_alloc | apply pw_below_drewN | apply below_drew1) | exact HB.out)))); (case aL => have := LMc27.out; omega); intro v134 w32 ho hb hg hat; rw [← Ny133.out] at ho; have n0_ := Aside0.mk (Kd.V_afterv (ok := (fun k_ => (P0_ k_ ∨ w.heap.size ≤ k_) ∧ some k_ ≠ (.slice Ao33 y130.length co33 : Value).ownBlock)) (by (with_reducible repeat (first | apply Kd.V_alloc | apply Kd.V_drewN | apply Kd.V_drew)); exact Kd.V_mono HO_0.out (fun _ hk => ⟨⟨hk.1.1, hk.2⟩, hk.1.2⟩)) hg hat); have n1_ := Aside0.mk (Kd.V_afterv (ok := (fun k_ => (P0_ k_ ∨ w.heap.size ≤ k_) ∧ some k_ ≠ (.slice Ao33 y130.length co33 : Value).ownBlock)) (by (with_reducible repeat (first | apply Kd.V_alloc | apply Kd.V_drewN | apply Kd.V_drew)); exact Kd.V_mono HO118.out (fun _ hk => ⟨⟨hk.1.1, hk.2⟩, hk.1.2⟩)) hg hat); have n2_ := Aside0.mk (Kd.R_after (ok := (fun k_ => (w.heap.size ≤ k_))) (by (with_reducible repeat (first | apply Kd.R_alloc | apply Kd.R_drewN | apply Kd.R_drew)); exact Kd.R_mono HO132.out (fun _ hk => ⟨hk.1.1, hk.2⟩)) hg hat); have n3_ := Aside0.mk (hb); have n4_ := Aside0.mk (ho); clear HO_0; clear HO118; clear HO132; clear HB; clear HO_3; have HO_0 := n0_; have HO118 := n1_; have HO132 := n2_; have HB := n3_; have HO135 := n4_; clear n0_ n1_ n2_ n3_ n4_; clear ho hb hg hat))
                        go_roundg k3
                        case measure => have := HJ1.out; have := HJ8.out; have := HK3.out; omega
                        case rel => exact ⟨(y133), (wrap64 (x4_3 + t119)), (by first | rfl | (simp; done) | (simp [*]; done)), H', ⟨by have := HJ1.out; have := HJ8.out; have := HK3.out; omega⟩, ⟨by (with_reducible repeat (first | apply Kd.V_alloc | apply Kd.V_drewN | apply Kd.V_drew)); exact Kd.V_mono HO_0.out (fun _ hk => ⟨hk.1.1, hk.2⟩)⟩, ⟨by (with_reducible repeat (first | apply Kd.R_alloc | apply Kd.R_drewN | apply Kd.R_drew)); exact Kd.R_mono HO135.out (fun _ hk => hk.1)⟩, ⟨by repeat (first | (with_reducible first | exact HB.out | apply below_alloc | apply pw_below_drewN | apply below_drew1) | exact HB.out)⟩⟩
                      · rw [if_neg c27] at H
                        exact absurd H (by simp)
                  · rw [if_neg c15] at H
                    exact absurd H (by simp)
                · rw [if_neg c14] at H
                  exact absurd H (by simp)
              · rw [if_neg c13] at H
                have c13b0 : decide (x4_3 < (x0_8.length : Int)) = false := decide_eq_false c13
                clear c13
                have H' := Aside0.mk H
                clear H
                obtain ⟨Ao34, co34, eo34⟩ := Kd.V_slice HO_0.out
                subst eo34
                go_wp2
                go_loopg [6, 7] k3 (fun kq v6 v7 w' => ∃ (x6_4 : List Int) (x7_4 : Int), v7 = .int .i64 x7_4 ∧ Aside0 (portiereref01_Decode.l1 kq x3_3 x6_4 x7_4 = some r) ∧ Aside0 (kq ≤ k3) ∧ Aside0 (Kd.R (Kd.int .u8) 5 w' w.heap.size (fun k_ => (w.heap.size ≤ k_) ∧ some k_ ≠ (v6 : Value).ownBlock) u3 x3_3) ∧ Aside0 (Kd.R (Kd.int .u8) 5 w' w.heap.size (fun k_ => (w.heap.size ≤ k_) ∧ some k_ ≠ (u3 : Value).ownBlock) v6 x6_4) ∧ Aside0 (Below w.heap.size w w'))
                case atStart => exact ⟨(([] : List Int)), (0), (by first | rfl | (simp; done) | (simp [*]; done)), H', ⟨Nat.le_refl _⟩, ⟨by (with_reducible repeat (first | apply Kd.R_alloc | apply Kd.R_drewN | apply Kd.R_drew)); exact Kd.R_mono HO_3.out (fun _ hk => ⟨hk, (by simp [Value.ownBlock])⟩)⟩, ⟨by first | exact Kd.R_nil _ _ _ _ _ | exact Kd.N_nil _ _ _ _ _ | exact Kd.V_nil _ _ _ _ _ | exact Kd.Q_nil _ _ _ _ _ | exact Kd.S_nil _ _ _ _ _⟩, ⟨by repeat (first | (with_reducible first | exact HB.out | apply below_alloc | apply pw_below_drewN | apply below_drew1) | exact HB.out)⟩⟩
                case round =>
                  clear H'
                  try clear c1
                  try clear p1
                  try clear q1
                  try clear hx1
                  try clear qi1
                  try clear c2
                  try clear p2
                  try clear q2
                  try clear c3
                  try clear c3b0
                  try clear c3b1
                  try clear c4
                  try clear c4b0
                  try clear c4b1
                  try clear c5
                  try clear c5b0
                  try clear c5b1
                  try clear c6
                  try clear c6b0
                  try clear c6b1
                  try clear p6
                  try clear c7
                  try clear c7b0
                  try clear c7b1
                  try clear c8
                  try clear c8b0
                  try clear c8b1
                  try clear c10
                  try clear p10
                  try clear q10
                  try clear hx10
                  try clear qi10
                  try clear c11
                  try clear c11b0
                  try clear c11b1
                  try clear c12
                  try clear p12
                  try clear q12
                  try clear hx12
                  try clear c13
                  try clear c13b0
                  try clear c14
                  try clear c14b0
                  try clear c14b1
                  try clear c15
                  try clear c15b0
                  try clear c15b1
                  try clear c18
                  try clear c18b0
                  try clear c18b1
                  try clear c19
                  try clear c19b0
                  try clear c20
                  try clear c20b0
                  try clear c20b1
                  try clear c21
                  try clear c21b0
                  try clear c21b1
                  try clear c22
                  try clear c24
                  try clear q24
                  try clear c25
                  try clear q25
                  try clear c27
                  try clear c29
                  try clear q29
                  try clear hx106_0
                  try clear hx107_0
                  try clear hx108_0
                  try clear hx120_0
                  try clear p1
                  try clear p10
                  try clear p106
                  try clear p107
                  try clear p108
                  try clear p120
                  try clear p2
                  try clear q024
                  try clear q025
                  try clear q029
                  try clear q1
                  try clear q10
                  try clear q106
                  try clear q107
                  try clear q108
                  try clear q12
                  try clear q120
                  try clear q24
                  try clear q25
                  try clear q29
                  obtain ⟨x6_4, x7_4, rfl, HA, HK4, HO_3, HO_6, HB⟩ := hrel
                  cases gk with
                  | zero => exact absurd HA.out (by simp [portiereref01_Decode.l1])
                  | succ k4 =>
                    have H := HA.out
                    clear HA
                    simp only [portiereref01_Decode.l1] at H
                    by_cases c35 : x7_4 < (x3_3.length : Int)
                    · rw [if_pos c35] at H
                      have c35b0 : decide (x7_4 < (x3_3.length : Int)) = true := decide_eq_true c35
                      clear c35
                      by_cases c36 : 0 ≤ x7_4
                      · rw [if_pos c36] at H
                        have c36b0 : decide (0 ≤ x7_4) = true := decide_eq_true c36
                        clear c36
                        by_cases c37 : (rd x3_3 x7_4) = 13
                        · rw [if_pos c37] at H
                          have c37b0 : ((rd x3_3 x7_4) == 13) = true := beq_iff_eq.mpr c37
                          have c37b1 : ((rd x3_3 x7_4) != 13) = false := bne_eq_false_iff_eq.mpr c37
                          clear c37
                          by_cases c38 : (wrap64 (x7_4 + 1)) ≥ (x3_3.length : Int)
                          · rw [if_pos c38] at H
                            (try (have c38u : (((x7_4 + 1)) ≥ (x3_3.length : Int)) := by (have h_ := c38; unfold wrap64 at h_; omega)))
                            (try (have c38ub0 : decide ((x3_3.length : Int) ≤ ((x7_4 + 1))) = true := decide_eq_true c38u))
                            (try clear c38u)
                            have c38b0 : decide ((x3_3.length : Int) ≤ (wrap64 (x7_4 + 1))) = true := decide_eq_true c38
                            clear c38
                            by_cases c39 : x6_4.length < 140737488355328
                            · rw [if_pos c39] at H
                              have LMc39 := Aside0.mk c39
                              clear c39
                              obtain ⟨y137, hy137⟩ : ∃ y_ : List Int, y_ = (x6_4 ++ [10]) := ⟨_, rfl⟩
                              replace H : (portiereref01_Decode.l1 k4 x3_3 y137 (wrap64 (x7_4 + 1))) = some r := by first | (rw [hy137]; with_reducible exact H) | (have H2_ := (Option.bind_some _ _).symm.trans H; rw [hy137]; with_reducible exact H2_) | (have H2_ := (Option.bind_some _ _).symm.trans H; with_reducible exact H2_) | with_reducible exact H | (rw [hy137]; exact H) | exact H
                              have Ny137 := Aside0.mk hy137
                              clear hy137
                              have H' := Aside0.mk H
                              clear H
                              obtain ⟨Ao40, co40, eo40⟩ := Kd.R_slice HO_3.out
                              subst eo40
                              have p136 : 0 ≤ (x7_4 : Int) := of_decide_eq_true (by first | (with_reducible assumption) | assumption)
                              have q136 : x7_4 < (x3_3.length : Int) := of_decide_eq_true (by first | (with_reducible assumption) | assumption)
                              obtain ⟨ad136, e136, hx136_0⟩ := Kd.at_int (Kd.R_reads' HO_3.out).2.2 x7_4 p136 q136
                              cases e136
                              replace p136 := eq_true p136
                              replace q136 := eq_true q136
                              go_wp2_with (first | ((with_reducible refine gate_builtin (b := .append) (xs := #[.tmp 92, .tmp 93]) rfl ?_); at_builtin; refine Kd.R_append (Kd.int .u8) (w0 := w) w.heap.size rfl (.tmp 92) (.tmp 93) 23 5 (.int .u8 0) 1 rfl Tryd.underlying23 info5 rfl (by decide) (by omega) u6 x6_4 10 [.int .u8 10] (fun k_ => (w.heap.size ≤ k_) ∧ some k_ ≠ (.slice (some ad136) x3_3.length co40 : Value).ownBlock) (fun _ => False) rfl rfl ?aP (fun _ hk => hk.elim) ?aF ?aO ?aB ?aS ?aL ?_; (case aP => exact rfl); (case aB => exact (by repeat (first | (with_reducible first | exact HB.out | apply below_alloc | apply pw_below_drewN | apply below_drew1) | exact HB.out))); (case aF => exact (fun k_ hk => ⟨(Nat.le_trans (below_size (by repeat (first | (with_reducible first | exact HB.out | apply below_alloc | apply pw_below_drewN | apply below_drew1) | exact HB.out))) hk), Kd.fresh' (Kd.R_lt (by (with_reducible repeat (first | apply Kd.R_alloc | apply Kd.R_drewN | apply Kd.R_drew)); exact HO_3.out)) k_ hk⟩)); (case aO => exact (by (with_reducible repeat (first | apply Kd.R_alloc | apply Kd.R_drewN | apply Kd.R_drew)); exact HO_6.out)); (case aS => exact (below_size (by repeat (first | (with_reducible first | exact HB.out | apply below_alloc | apply pw_below_drewN | apply below_drew1) | exact HB.out)))); (case aL => have := LMc39.out; omega); intro v138 w41 ho hb hg hat; rw [← Ny137.out] at ho; have n0_ := Aside0.mk (Kd.R_after (ok := (fun k_ => (w.heap.size ≤ k_))) (by (with_reducible repeat (first | apply Kd.R_alloc | apply Kd.R_drewN | apply Kd.R_drew)); exact HO_3.out) hg hat); have n1_ := Aside0.mk (hb); have n2_ := Aside0.mk (ho); clear HO_3; clear HB; clear HO_6; have HO_3 := n0_; have HB := n1_; have HO139 := n2_; clear n0_ n1_ n2_; clear ho hb hg hat))
                              go_roundg k4
                              case measure => have := HJ1.out; have := HJ8.out; have := HK3.out; have := HK4.out; omega
                              case rel => exact ⟨(y137), (wrap64 (x7_4 + 1)), (by first | rfl | (simp; done) | (simp [*]; done)), H', ⟨by have := HJ1.out; have := HJ8.out; have := HK3.out; have := HK4.out; omega⟩, ⟨by (with_reducible repeat (first | apply Kd.R_alloc | apply Kd.R_drewN | apply Kd.R_drew)); exact HO_3.out⟩, ⟨by (with_reducible repeat (first | apply Kd.R_alloc | apply Kd.R_drewN | apply Kd.R_drew)); exact HO139.out⟩, ⟨by repeat (first | (with_reducible first | exact HB.out | apply below_alloc | apply pw_below_drewN | apply below_drew1) | exact HB.out)⟩⟩
                            · rw [if_neg c39] at H
                              exact absurd H (by simp)
                          · rw [if_neg c38] at H
                            (try (have c38u : ¬ (((x7_4 + 1)) ≥ (x3_3.length : Int)) := by (have h_ := c38; unfold wrap64 at h_; omega)))
                            (try (have c38ub0 : decide ((x3_3.length : Int) ≤ ((x7_4 + 1))) = false := decide_eq_false c38u))
                            (try clear c38u)
                            have c38b0 : decide ((x3_3.length : Int) ≤ (wrap64 (x7_4 + 1))) = false := decide_eq_false c38
                            clear c38
                            obtain ⟨ji42, hji42⟩ : ∃ j_ : Int, (wrap64 (x7_4 + 1)) = j_ := ⟨_, rfl⟩
                            replace H : (if 0 ≤ (ji42) then (if (ji42) < (x3_3.length : Int) then (if (rd x3_3 (ji42)) = 10 then (portiereref01_Decode.l1 k4 x3_3 x6_4 ji42) else (if x6_4.length < 140737488355328 then (portiereref01_Decode.l1 k4 x3_3 (x6_4 ++ [10]) ji42) else (none))) else (none)) else (none)) = some r := by first | (rw [hji42] at H; exact H) | (simp only [hji42] at H ⊢; exact H)
                            (try rw [hji42] at c38b0)
                            have hji42w : (IntKind.i64.wrap (x7_4 + 1)) = ji42 := (i64_w _).trans hji42
                            by_cases c43 : 0 ≤ (ji42)
                            · rw [if_pos c43] at H
                              have c43b0 : decide (0 ≤ (ji42)) = true := decide_eq_true c43
                              clear c43
                              by_cases c44 : (ji42) < (x3_3.length : Int)
                              · rw [if_pos c44] at H
                                have c44b0 : decide ((ji42) < (x3_3.length : Int)) = true := decide_eq_true c44
                                clear c44
                                by_cases c45 : (rd x3_3 (ji42)) = 10
                                · rw [if_pos c45] at H
                                  have c45b0 : ((rd x3_3 (ji42)) == 10) = true := beq_iff_eq.mpr c45
                                  have c45b1 : ((rd x3_3 (ji42)) != 10) = false := bne_eq_false_iff_eq.mpr c45
                                  clear c45
                                  have H' := Aside0.mk H
                                  clear H
                                  obtain ⟨Ao46, co46, eo46⟩ := Kd.R_slice HO_3.out
                                  subst eo46
                                  have p136 : 0 ≤ (x7_4 : Int) := of_decide_eq_true (by first | (with_reducible assumption) | assumption)
                                  have q136 : x7_4 < (x3_3.length : Int) := of_decide_eq_true (by first | (with_reducible assumption) | assumption)
                                  obtain ⟨ad136, e136, hx136_0⟩ := Kd.at_int (Kd.R_reads' HO_3.out).2.2 x7_4 p136 q136
                                  cases e136
                                  replace p136 := eq_true p136
                                  replace q136 := eq_true q136
                                  have p140 : 0 ≤ ((ji42) : Int) := of_decide_eq_true (by first | (with_reducible assumption) | assumption)
                                  have q140 : (ji42) < (x3_3.length : Int) := of_decide_eq_true (by first | (with_reducible assumption) | assumption)
                                  obtain ⟨ad140, e140, hx140_0⟩ := Kd.at_int (Kd.R_reads' HO_3.out).2.2 (ji42) p140 q140
                                  obtain rfl : ad136 = ad140 := (by injection e140)
                                  replace p140 := eq_true p140
                                  replace q140 := eq_true q140
                                  go_wp2
                                  go_roundg k4
                                  case measure => have := HJ1.out; have := HJ8.out; have := HK3.out; have := HK4.out; omega
                                  case rel => exact ⟨(x6_4), (ji42), (by first | rfl | (simp; done) | (simp only [← hji42] <;> (first | rfl | simp)) | (simp [*]; done)), H', ⟨by have := HJ1.out; have := HJ8.out; have := HK3.out; have := HK4.out; omega⟩, ⟨by (with_reducible repeat (first | apply Kd.R_alloc | apply Kd.R_drewN | apply Kd.R_drew)); exact HO_3.out⟩, ⟨by (with_reducible repeat (first | apply Kd.R_alloc | apply Kd.R_drewN | apply Kd.R_drew)); exact HO_6.out⟩, ⟨by repeat (first | (with_reducible first | exact HB.out | apply below_alloc | apply pw_below_drewN | apply below_drew1) | exact HB.out)⟩⟩
                                · rw [if_neg c45] at H
                                  have c45b0 : ((rd x3_3 (ji42)) == 10) = false := beq_eq_false_iff_ne.mpr c45
                                  have c45b1 : ((rd x3_3 (ji42)) != 10) = true := bne_iff_ne.mpr c45
                                  by_cases c47 : x6_4.length < 140737488355328
                                  · rw [if_pos c47] at H
                                    have LMc47 := Aside0.mk c47
                                    clear c47
                                    obtain ⟨y141, hy141⟩ : ∃ y_ : List Int, y_ = (x6_4 ++ [10]) := ⟨_, rfl⟩
                                    replace H : (portiereref01_Decode.l1 k4 x3_3 y141 ji42) = some r := by first | (rw [hy141]; with_reducible exact H) | (have H2_ := (Option.bind_some _ _).symm.trans H; rw [hy141]; with_reducible exact H2_) | (have H2_ := (Option.bind_some _ _).symm.trans H; with_reducible exact H2_) | with_reducible exact H | (rw [hy141]; exact H) | exact H
                                    have Ny141 := Aside0.mk hy141
                                    clear hy141
                                    have H' := Aside0.mk H
                                    clear H
                                    obtain ⟨Ao48, co48, eo48⟩ := Kd.R_slice HO_3.out
                                    subst eo48
                                    have p136 : 0 ≤ (x7_4 : Int) := of_decide_eq_true (by first | (with_reducible assumption) | assumption)
                                    have q136 : x7_4 < (x3_3.length : Int) := of_decide_eq_true (by first | (with_reducible assumption) | assumption)
                                    obtain ⟨ad136, e136, hx136_0⟩ := Kd.at_int (Kd.R_reads' HO_3.out).2.2 x7_4 p136 q136
                                    cases e136
                                    replace p136 := eq_true p136
                                    replace q136 := eq_true q136
                                    have p140 : 0 ≤ ((ji42) : Int) := of_decide_eq_true (by first | (with_reducible assumption) | assumption)
                                    have q140 : (ji42) < (x3_3.length : Int) := of_decide_eq_true (by first | (with_reducible assumption) | assumption)
                                    obtain ⟨ad140, e140, hx140_0⟩ := Kd.at_int (Kd.R_reads' HO_3.out).2.2 (ji42) p140 q140
                                    obtain rfl : ad136 = ad140 := (by injection e140)
                                    replace p140 := eq_true p140
                                    replace q140 := eq_true q140
                                    go_wp2_with (first | ((with_reducible refine gate_builtin (b := .append) (xs := #[.tmp 92, .tmp 93]) rfl ?_); at_builtin; refine Kd.R_append (Kd.int .u8) (w0 := w) w.heap.size rfl (.tmp 92) (.tmp 93) 23 5 (.int .u8 0) 1 rfl Tryd.underlying23 info5 rfl (by decide) (by omega) u6 x6_4 10 [.int .u8 10] (fun k_ => (w.heap.size ≤ k_) ∧ some k_ ≠ (.slice (some ad136) x3_3.length co48 : Value).ownBlock) (fun _ => False) rfl rfl ?aP (fun _ hk => hk.elim) ?aF ?aO ?aB ?aS ?aL ?_; (case aP => exact rfl); (case aB => exact (by repeat (first | (with_reducible first | exact HB.out | apply below_alloc | apply pw_below_drewN | apply below_drew1) | exact HB.out))); (case aF => exact (fun k_ hk => ⟨(Nat.le_trans (below_size (by repeat (first | (with_reducible first | exact HB.out | apply below_alloc | apply pw_below_drewN | apply below_drew1) | exact HB.out))) hk), Kd.fresh' (Kd.R_lt (by (with_reducible repeat (first | apply Kd.R_alloc | apply Kd.R_drewN | apply Kd.R_drew)); exact HO_3.out)) k_ hk⟩)); (case aO => exact (by (with_reducible repeat (first | apply Kd.R_alloc | apply Kd.R_drewN | apply Kd.R_drew)); exact HO_6.out)); (case aS => exact (below_size (by repeat (first | (with_reducible first | exact HB.out | apply below_alloc | apply pw_below_drewN | apply below_drew1) | exact HB.out)))); (case aL => have := LMc47.out; omega); intro v142 w49 ho hb hg hat; rw [← Ny141.out] at ho; have n0_ := Aside0.mk (Kd.R_after (ok := (fun k_ => (w.heap.size ≤ k_))) (by (with_reducible repeat (first | apply Kd.R_alloc | apply Kd.R_drewN | apply Kd.R_drew)); exact HO_3.out) hg hat); have n1_ := Aside0.mk (hb); have n2_ := Aside0.mk (ho); clear HO_3; clear HB; clear HO_6; have HO_3 := n0_; have HB := n1_; have HO143 := n2_; clear n0_ n1_ n2_; clear ho hb hg hat))
                                    go_roundg k4
                                    case measure => have := HJ1.out; have := HJ8.out; have := HK3.out; have := HK4.out; omega
                                    case rel => exact ⟨(y141), (ji42), (by first | rfl | (simp; done) | (simp only [← hji42] <;> (first | rfl | simp)) | (simp [*]; done)), H', ⟨by have := HJ1.out; have := HJ8.out; have := HK3.out; have := HK4.out; omega⟩, ⟨by (with_reducible repeat (first | apply Kd.R_alloc | apply Kd.R_drewN | apply Kd.R_drew)); exact HO_3.out⟩, ⟨by (with_reducible repeat (first | apply Kd.R_alloc | apply Kd.R_drewN | apply Kd.R_drew)); exact HO143.out⟩, ⟨by repeat (first | (with_reducible first | exact HB.out | apply below_alloc | apply pw_below_drewN | apply below_drew1) | exact HB.out)⟩⟩
                                  · rw [if_neg c47] at H
                                    exact absurd H (by simp)
                              · rw [if_neg c44] at H
                                exact absurd H (by simp)
                            · rw [if_neg c43] at H
                              exact absurd H (by simp)
                        · rw [if_neg c37] at H
                          have c37b0 : ((rd x3_3 x7_4) == 13) = false := beq_eq_false_iff_ne.mpr c37
                          have c37b1 : ((rd x3_3 x7_4) != 13) = true := bne_iff_ne.mpr c37
                          by_cases c50 : x6_4.length < 140737488355328
                          · rw [if_pos c50] at H
                            have LMc50 := Aside0.mk c50
                            clear c50
                            obtain ⟨y145, hy145⟩ : ∃ y_ : List Int, y_ = (x6_4 ++ [rd x3_3 x7_4]) := ⟨_, rfl⟩
                            replace H : (portiereref01_Decode.l1 k4 x3_3 y145 (wrap64 (x7_4 + 1))) = some r := by first | (rw [hy145]; with_reducible exact H) | (have H2_ := (Option.bind_some _ _).symm.trans H; rw [hy145]; with_reducible exact H2_) | (have H2_ := (Option.bind_some _ _).symm.trans H; with_reducible exact H2_) | with_reducible exact H | (rw [hy145]; exact H) | exact H
                            have Ny145 := Aside0.mk hy145
                            clear hy145
                            have H' := Aside0.mk H
                            clear H
                            obtain ⟨Ao51, co51, eo51⟩ := Kd.R_slice HO_3.out
                            subst eo51
                            have p136 : 0 ≤ (x7_4 : Int) := of_decide_eq_true (by first | (with_reducible assumption) | assumption)
                            have q136 : x7_4 < (x3_3.length : Int) := of_decide_eq_true (by first | (with_reducible assumption) | assumption)
                            obtain ⟨ad136, e136, hx136_0⟩ := Kd.at_int (Kd.R_reads' HO_3.out).2.2 x7_4 p136 q136
                            cases e136
                            replace p136 := eq_true p136
                            replace q136 := eq_true q136
                            have p144 : 0 ≤ (x7_4 : Int) := of_decide_eq_true (by first | (with_reducible assumption) | assumption)
                            have q144 : x7_4 < (x3_3.length : Int) := of_decide_eq_true (by first | (with_reducible assumption) | assumption)
                            obtain ⟨ad144, e144, hx144_0⟩ := Kd.at_int (Kd.R_reads' HO_3.out).2.2 x7_4 p144 q144
                            obtain rfl : ad136 = ad144 := (by injection e144)
                            replace p144 := eq_true p144
                            replace q144 := eq_true q144
                            go_wp2_with (first | ((with_reducible refine gate_builtin (b := .append) (xs := #[.tmp 72, .tmp 77]) rfl ?_); at_builtin; refine Kd.R_append (Kd.int .u8) (w0 := w) w.heap.size rfl (.tmp 72) (.tmp 77) 23 5 (.int .u8 0) 1 rfl Tryd.underlying23 info5 rfl (by decide) (by omega) u6 x6_4 (rd x3_3 x7_4) [.int .u8 (rd x3_3 x7_4)] (fun k_ => (w.heap.size ≤ k_) ∧ some k_ ≠ (.slice (some ad136) x3_3.length co51 : Value).ownBlock) (fun _ => False) rfl rfl ?aP (fun _ hk => hk.elim) ?aF ?aO ?aB ?aS ?aL ?_; (case aP => exact rfl); (case aB => exact (by repeat (first | (with_reducible first | exact HB.out | apply below_alloc | apply pw_below_drewN | apply below_drew1) | exact HB.out))); (case aF => exact (fun k_ hk => ⟨(Nat.le_trans (below_size (by repeat (first | (with_reducible first | exact HB.out | apply below_alloc | apply pw_below_drewN | apply below_drew1) | exact HB.out))) hk), Kd.fresh' (Kd.R_lt (by (with_reducible repeat (first | apply Kd.R_alloc | apply Kd.R_drewN | apply Kd.R_drew)); exact HO_3.out)) k_ hk⟩)); (case aO => exact (by (with_reducible repeat (first | apply Kd.R_alloc | apply Kd.R_drewN | apply Kd.R_drew)); exact HO_6.out)); (case aS => exact (below_size (by repeat (first | (with_reducible first | exact HB.out | apply below_alloc | apply pw_below_drewN | apply below_drew1) | exact HB.out)))); (case aL => have := LMc50.out; omega); intro v146 w52 ho hb hg hat; rw [← Ny145.out] at ho; have n0_ := Aside0.mk (Kd.R_after (ok := (fun k_ => (w.heap.size ≤ k_))) (by (with_reducible repeat (first | apply Kd.R_alloc | apply Kd.R_drewN | apply Kd.R_drew)); exact HO_3.out) hg hat); have n1_ := Aside0.mk (hb); have n2_ := Aside0.mk (ho); clear HO_3; clear HB; clear HO_6; have HO_3 := n0_; have HB := n1_; have HO147 := n2_; clear n0_ n1_ n2_; clear ho hb hg hat))
                            go_roundg k4
                            case measure => have := HJ1.out; have := HJ8.out; have := HK3.out; have := HK4.out; omega
                            case rel => exact ⟨(y145), (wrap64 (x7_4 + 1)), (by first | rfl | (simp; done) | (simp [*]; done)), H', ⟨by have := HJ1.out; have := HJ8.out; have := HK3.out; have := HK4.out; omega⟩, ⟨by (with_reducible repeat (first | apply Kd.R_alloc | apply Kd.R_drewN | apply Kd.R_drew)); exact HO_3.out⟩, ⟨by (with_reducible repeat (first | apply Kd.R_alloc | apply Kd.R_drewN | apply Kd.R_drew)); exact HO147.out⟩, ⟨by repeat (first | (with_reducible first | exact HB.out | apply below_alloc | apply pw_below_drewN | apply below_drew1) | exact HB.out)⟩⟩
                          · rw [if_neg c50] at H
                            exact absurd H (by simp)
                      · rw [if_neg c36] at H
                        exact absurd H (by simp)
                    · rw [if_neg c35] at H
                      have c35b0 : decide (x7_4 < (x3_3.length : Int)) = false := decide_eq_false c35
                      clear c35
                      obtain rfl := Option.some.inj H
                      obtain ⟨Ao53, co53, eo53⟩ := Kd.R_slice HO_3.out
                      subst eo53
                      have hcv54 := own_string (P := Tryd.prog) Tryd.underlying23 Tryd.underlying5 Tryd.underlying9 (Kd.own_of_R HO_6.out)
                      go_wp2
                      go_ret
                      exact ⟨by first | rfl | (simp [errW_none, errW_some] <;> rfl) | (simp [*, errW_none, errW_some] <;> rfl), by repeat (first | (with_reducible first | exact HB.out | apply below_alloc | apply pw_below_drewN | apply below_drew1) | exact HB.out)⟩

end Go.Proofs.YtoejbjmdcokojaaDoor.P
