-- Written by wip/tools/gprint.py of this session, over the kit's print. Lean checks it.
import Derived.Test.YtoejbjmdcokojaaDoorQx0
import Derived.Test.YtoejbjmdcokojaaDoorQx1
import Derived.Test.YtoejbjmdcokojaaDoorQx2
namespace Go.Proofs.YtoejbjmdcokojaaDoor.Q
open Go.Proofs.YtoejbjmdcokojaaDoor.Hand
open Go.RowKit Go.Proofs.YtoejbjmdcokojaaDoorW.PrintWords Go.Proofs.YtoejbjmdcokojaaDoorW.PrintLast Go.Proofs.YtoejbjmdcokojaaDoorW.PrintMore
attribute [local go_sem] max2_int min2_int max_two min_two max_three min_three max_four min_four   -- for this text's walks alone
attribute [local go_sem] Go.IntKind.wrap_u32 conv_bytes
set_option linter.unusedVariables false
set_option linter.unusedSimpArgs false

/-! ### portierelaw01_InputMany: function 9 -/
mutual
def portierelaw01_InputMany.j0 : Nat → List Int → Bool → Option (Bool)
  | 0, _, _ => none
  | k + 1, x0, x13 => if x13 = true then ((portierelaw01_known.f).bind fun t131 => (some t131)) else ((input_Decode.f x0).bind fun t132 => (portierelaw01_InputMany.l0 k x0 t132 0 0))
def portierelaw01_InputMany.l0 : Nat → List Int → ByteArray → Int → Int → Option (Bool)
  | 0, _, _, _, _ => none
  | k + 1, x0, x3, x4, x5 => if x5 < (x3.size : Int) then (if 0 ≤ x5 then (if (bt x3 x5) < 128 then (portierelaw01_InputMany.j2 k x0 x3 x4 x5 true) else (portierelaw01_InputMany.j2 k x0 x3 x4 x5 (decide ((bt x3 x5) > 191)))) else (none)) else (if (x3.size : Int) ≥ 3 then (if 0 ≤ 3 then (if 3 ≤ (x3.size : Int) then (if x4 ≤ (x0.length : Int) then (if (x3.extract 0 3).toList = ([239, 187, 191] : List UInt8) then (some true) else ((input_DecodeS.f x3).bind fun t133 => (some (t133.toList == x3.toList)))) else (some false)) else (none)) else (none)) else (if x4 ≤ (x0.length : Int) then ((input_DecodeS.f x3).bind fun t134 => (some (t134.toList == x3.toList))) else (some false)))
def portierelaw01_InputMany.j2 : Nat → List Int → ByteArray → Int → Int → Bool → Option (Bool)
  | 0, _, _, _, _, _ => none
  | k + 1, x0, x3, x4, x5, x32 => if x32 = true then (if 0 ≤ x5 then (if x5 < (x3.size : Int) then (if (bt x3 x5) = 13 then (some false) else (portierelaw01_InputMany.l0 k x0 x3 (wrap64 (x4 + 1)) (wrap64 (x5 + 1)))) else (none)) else (none)) else (if 0 ≤ x5 then (if x5 < (x3.size : Int) then (if (bt x3 x5) = 13 then (some false) else (portierelaw01_InputMany.l0 k x0 x3 x4 (wrap64 (x5 + 1)))) else (none)) else (none))
end
def portierelaw01_InputMany.f (k : Nat) (l0 : List Int) : Option (Bool) := if (l0.length : Int) > 3000 then (portierelaw01_InputMany.j0 k l0 true) else ((portierelaw01_known.f).bind fun t130 => (portierelaw01_InputMany.j0 k l0 (!t130)))
theorem portierelaw01_InputMany.mono_l : ∀ k, (∀ y0 y1, LeO (portierelaw01_InputMany.j0 k y0 y1) (portierelaw01_InputMany.j0 (k + 1) y0 y1)) ∧ (∀ y0 y1 y2 y3, LeO (portierelaw01_InputMany.l0 k y0 y1 y2 y3) (portierelaw01_InputMany.l0 (k + 1) y0 y1 y2 y3)) ∧ (∀ y0 y1 y2 y3 y4, LeO (portierelaw01_InputMany.j2 k y0 y1 y2 y3 y4) (portierelaw01_InputMany.j2 (k + 1) y0 y1 y2 y3 y4))
  | 0 => ⟨fun _ _ r h => by simp [portierelaw01_InputMany.j0] at h, fun _ _ _ _ r h => by simp [portierelaw01_InputMany.l0] at h, fun _ _ _ _ _ r h => by simp [portierelaw01_InputMany.j2] at h⟩
  | k + 1 => by
    obtain ⟨ih0, ih1, ih2⟩ := portierelaw01_InputMany.mono_l k
    refine ⟨?_, ?_, ?_⟩
    · intro y0 y1
      unfold portierelaw01_InputMany.j0
      repeat' first
      | (with_reducible exact ih0 _ _)
      | (with_reducible exact ih1 _ _ _ _)
      | (with_reducible exact ih2 _ _ _ _ _)
      | (with_reducible exact LeO.refl _)
      | (with_reducible exact LeO.none _)
      | (with_reducible refine LeO.ite ?_ ?_)
      | (with_reducible refine LeO.bind ?_ (fun _ => ?_))
      | exact ih0 _ _
      | exact ih1 _ _ _ _
      | exact ih2 _ _ _ _ _
      | exact LeO.none _
      | refine LeO.ite ?_ ?_
      | refine LeO.bind ?_ (fun _ => ?_)
    · intro y0 y1 y2 y3
      unfold portierelaw01_InputMany.l0
      repeat' first
      | (with_reducible exact ih0 _ _)
      | (with_reducible exact ih1 _ _ _ _)
      | (with_reducible exact ih2 _ _ _ _ _)
      | (with_reducible exact LeO.refl _)
      | (with_reducible exact LeO.none _)
      | (with_reducible refine LeO.ite ?_ ?_)
      | (with_reducible refine LeO.bind ?_ (fun _ => ?_))
      | exact ih0 _ _
      | exact ih1 _ _ _ _
      | exact ih2 _ _ _ _ _
      | exact LeO.none _
      | refine LeO.ite ?_ ?_
      | refine LeO.bind ?_ (fun _ => ?_)
    · intro y0 y1 y2 y3 y4
      unfold portierelaw01_InputMany.j2
      repeat' first
      | (with_reducible exact ih0 _ _)
      | (with_reducible exact ih1 _ _ _ _)
      | (with_reducible exact ih2 _ _ _ _ _)
      | (with_reducible exact LeO.refl _)
      | (with_reducible exact LeO.none _)
      | (with_reducible refine LeO.ite ?_ ?_)
      | (with_reducible refine LeO.bind ?_ (fun _ => ?_))
      | exact ih0 _ _
      | exact ih1 _ _ _ _
      | exact ih2 _ _ _ _ _
      | exact LeO.none _
      | refine LeO.ite ?_ ?_
      | refine LeO.bind ?_ (fun _ => ?_)
theorem portierelaw01_InputMany.mono : ∀ a0 k, LeO (portierelaw01_InputMany.f k a0) (portierelaw01_InputMany.f (k + 1) a0) := by
  intro a0 k
  obtain ⟨ih0, ih1, ih2⟩ := portierelaw01_InputMany.mono_l k
  unfold portierelaw01_InputMany.f
  repeat' first
      | (with_reducible exact ih0 _ _)
      | (with_reducible exact ih1 _ _ _ _)
      | (with_reducible exact ih2 _ _ _ _ _)
      | (with_reducible exact LeO.refl _)
      | (with_reducible exact LeO.none _)
      | (with_reducible refine LeO.ite ?_ ?_)
      | (with_reducible refine LeO.bind ?_ (fun _ => ?_))
      | exact ih0 _ _
      | exact ih1 _ _ _ _
      | exact ih2 _ _ _ _ _
      | exact LeO.none _
      | refine LeO.ite ?_ ?_
      | refine LeO.bind ?_ (fun _ => ?_)
set_option maxHeartbeats 8000000 in
set_option maxRecDepth 100000 in
theorem portierelaw01_InputMany.calls (k : Nat) (A0 : Option Addr) (c0 : Nat) (l0 : List Int) (r : Bool) (w : World) (hL : LaidW w) (hr0 : Kd.C (Kd.int .u8) w A0 l0.length l0) (hc0 : l0.length ≤ c0) (h : portierelaw01_InputMany.f k l0 = some r) :
    Calls Tryd.prog 9 #[.slice A0 l0.length c0] w fun e w' => e = .returned (.bool r) ∧ Below w.heap.size w w' := by
  have HR0 := Aside0.mk hr0
  have HC0 := Aside0.mk hc0
  clear hr0 hc0
  have HB := Aside0.mk (Below.refl w.heap.size w)
  have H : (if (l0.length : Int) > 3000 then (portierelaw01_InputMany.j0 k l0 true) else ((portierelaw01_known.f).bind fun t130 => (portierelaw01_InputMany.j0 k l0 (!t130)))) = some r := h
  clear h
  have HC2 := Aside0.mk H
  clear H
  go_enter Tryd.func9, Tryd.ntmps9
  go_upto_region 1 with (fail)
  go_cut [13] (fun v13 wc => ∃ (kq : Nat) (x13_1 : Bool), v13 = .bool x13_1 ∧ Aside0 (portierelaw01_InputMany.j0 kq l0 x13_1 = some r) ∧ Aside0 (kq ≤ k) ∧ Aside0 (Below w.heap.size w wc))
  case first =>
    have H := HC2.out
    clear HC2
    by_cases c3 : (l0.length : Int) > 3000
    · rw [if_pos c3] at H
      have c3b0 : decide (3000 < (l0.length : Int)) = true := decide_eq_true c3
      have c3b1 : decide (3000 < l0.length) = true := decide_eq_true (by omega)
      clear c3
      (first | rw [c3b0] | (simp only [i64_w, i32_w]; rw [c3b0]) | skip)
      have H' := Aside0.mk H
      clear H
      go_wp2
      go_meet
      case rel => exact ⟨_, (true), (by first | rfl | (simp; done) | (simp [*]; done)), H', ⟨by first | omega | exact Nat.le_refl _⟩, ⟨by repeat (first | (with_reducible first | exact HB.out | apply below_alloc | apply pw_below_drewN | apply below_drew1) | exact HB.out)⟩⟩
    · rw [if_neg c3] at H
      have c3b0 : decide (3000 < (l0.length : Int)) = false := decide_eq_false c3
      have c3b1 : decide (3000 < l0.length) = false := decide_eq_false (by omega)
      clear c3
      (first | rw [c3b0] | (simp only [i64_w, i32_w]; rw [c3b0]) | skip)
      replace H := Option.bind_eq_some_iff.mp H
      obtain ⟨t130, A40, H⟩ := H
      replace H : (portierelaw01_InputMany.j0 k l0 (!t130)) = some r := H
      have A4 := Aside0.mk A40
      clear A40
      have H' := Aside0.mk H
      clear H
      go_wp2_with (first | (go_at_call 10; (with_reducible refine (portierelaw01_known.calls t130 _ (hL.below (by repeat (first | (with_reducible first | exact HB.out | apply below_alloc | apply pw_below_drewN | apply below_drew1) | exact HB.out)) hL.size) A4.out).mono ?_); rintro e w5 ⟨rfl, hb⟩; have n0_ := Aside0.mk (below_step (by repeat (first | (with_reducible first | exact HB.out | apply below_alloc | apply pw_below_drewN | apply below_drew1) | exact HB.out)) hb); clear HB; have HB := n0_; clear n0_; (try clear hb); (try clear hb2); (try clear hk); (try clear hi)))
      go_meet
      case rel => exact ⟨_, (!t130), (by first | rfl | (simp; done) | (simp [*]; done)), H', ⟨by first | omega | exact Nat.le_refl _⟩, ⟨by repeat (first | (with_reducible first | exact HB.out | apply below_alloc | apply pw_below_drewN | apply below_drew1) | exact HB.out)⟩⟩
  case rest =>
    clear HC2
    try clear p2
    try clear c3
    try clear c3b0
    try clear c3b1
    obtain ⟨kq, x13_1, rfl, HA, HJ1, HB⟩ := hcut
    cases kq with
    | zero => exact absurd HA.out (by simp [portierelaw01_InputMany.j0])
    | succ kj1 =>
      have H := HA.out
      clear HA
      simp only [portierelaw01_InputMany.j0] at H
      by_cases c6 : x13_1 = true
      · subst c6
        have H1 : ((portierelaw01_known.f).bind fun t131 => (some t131)) = some r := by rw [if_pos rfl] at H; exact H
        clear H
        have H := H1
        clear H1
        replace H := Option.bind_eq_some_iff.mp H
        obtain ⟨t131, A70, H⟩ := H
        replace H : (some t131) = some r := H
        have A7 := Aside0.mk A70
        clear A70
        obtain rfl := Option.some.inj H
        go_wp2_with (first | ((with_reducible refine gate_callee (f := 10) rfl ?_); refine goesL_ (some 14) rfl rfl Tryd.func10 (by kernel_rfl) rfl #[] rfl (by (try simp only [List.map_toArray, List.map_cons, List.map_nil]); first | done | rfl | (simp only [List.length_drop, List.length_take]; rfl)) ?_; (with_reducible refine (portierelaw01_known.calls t131 _ (hL.below (by repeat (first | (with_reducible first | exact HB.out | apply below_alloc | apply pw_below_drewN | apply below_drew1) | exact HB.out)) hL.size) A7.out).mono ?_); rintro e w8 ⟨rfl, hb⟩; refine ⟨_, rfl, ?_⟩; have n0_ := Aside0.mk (below_step (by repeat (first | (with_reducible first | exact HB.out | apply below_alloc | apply pw_below_drewN | apply below_drew1) | exact HB.out)) hb); clear HB; have HB := n0_; clear n0_; (try clear hb); (try clear hb2); (try clear hk); (try clear hi)))
        go_ret
        exact ⟨by first | rfl | (simp [errW_none, errW_some] <;> rfl) | (simp [*, errW_none, errW_some] <;> rfl), by repeat (first | (with_reducible first | exact HB.out | apply below_alloc | apply pw_below_drewN | apply below_drew1) | exact HB.out)⟩
      · replace c6 := Bool.eq_false_iff.mpr c6
        subst c6
        have H1 : ((input_Decode.f l0).bind fun t132 => (portierelaw01_InputMany.l0 kj1 l0 t132 0 0)) = some r := by rw [if_neg (show ¬ (false = true) by decide)] at H; exact H
        clear H
        have H := H1
        clear H1
        replace H := Option.bind_eq_some_iff.mp H
        obtain ⟨t132, A90, H⟩ := H
        replace H : (portierelaw01_InputMany.l0 kj1 l0 t132 0 0) = some r := H
        have A9 := Aside0.mk A90
        clear A90
        have H' := Aside0.mk H
        clear H
        go_wp2_with (first | ((with_reducible refine gate_callee (f := 14) rfl ?_); refine goesL_ (some 16) rfl rfl Tryd.func14 (by kernel_rfl) rfl #[.slice A0 l0.length c0] rfl (by (try simp only [List.map_toArray, List.map_cons, List.map_nil]); first | done | rfl | (simp only [List.length_drop, List.length_take]; rfl)) ?_; (with_reducible refine (input_Decode.calls _ _ l0 t132 _ (hL.below (by repeat (first | (with_reducible first | exact HB.out | apply below_alloc | apply pw_below_drewN | apply below_drew1) | exact HB.out)) hL.size) ?side1 ?side2 A9.out).mono ?_); (case side1 => repeat (first | exact (Kd.C_below HR0.out HB.out) | (with_reducible refine Kd.C_alloc ?_ _) | (with_reducible refine Kd.C_drewN ?_ _) | (with_reducible refine Kd.C_drew ?_))); (case side2 => exact HC0.out); rintro e w10 ⟨rfl, hb⟩; refine ⟨_, rfl, ?_⟩; have n0_ := Aside0.mk (below_step (by repeat (first | (with_reducible first | exact HB.out | apply below_alloc | apply pw_below_drewN | apply below_drew1) | exact HB.out)) hb); clear HB; have HB := n0_; clear n0_; (try clear hb); (try clear hb2); (try clear hk); (try clear hi)))
        go_loopg [4, 5] kj1 (fun kq v4 v5 w' => ∃ (x4_2 : Int) (x5_2 : Int), v4 = .int .i64 x4_2 ∧ v5 = .int .i64 x5_2 ∧ Aside0 (portierelaw01_InputMany.l0 kq l0 t132 x4_2 x5_2 = some r) ∧ Aside0 (kq ≤ kj1) ∧ Aside0 (Below w.heap.size w w'))
        case atStart => exact ⟨(0), (0), (by first | rfl | (simp; done) | (simp [*]; done)), (by first | rfl | (simp; done) | (simp [*]; done)), H', ⟨Nat.le_refl _⟩, ⟨by repeat (first | (with_reducible first | exact HB.out | apply below_alloc | apply pw_below_drewN | apply below_drew1) | exact HB.out)⟩⟩
        case round =>
          clear H'
          try clear c1
          try clear p2
          try clear c3
          try clear c3b0
          try clear c3b1
          try clear c6
          try clear c9
          try clear c10
          try clear p2
          obtain ⟨x4_2, x5_2, rfl, rfl, HA, HK2, HB⟩ := hrel
          cases gk with
          | zero => exact absurd HA.out (by simp [portierelaw01_InputMany.l0])
          | succ k2 =>
            have H := HA.out
            clear HA
            simp only [portierelaw01_InputMany.l0] at H
            by_cases c11 : x5_2 < (t132.size : Int)
            · rw [if_pos c11] at H
              have c11b0 : decide (x5_2 < (t132.size : Int)) = true := decide_eq_true c11
              clear c11
              have HC12 := Aside0.mk H
              clear H
              go_upto_region 8 with (fail)
              go_cut [32] (fun v32 wc => ∃ (kq : Nat) (x32_11 : Bool), v32 = .bool x32_11 ∧ Aside0 (portierelaw01_InputMany.j2 kq l0 t132 x4_2 x5_2 x32_11 = some r) ∧ Aside0 (kq ≤ k2) ∧ Aside0 (Below w.heap.size w wc))
              case first =>
                have H := HC12.out
                clear HC12
                by_cases c13 : 0 ≤ x5_2
                · rw [if_pos c13] at H
                  have c13b0 : decide (0 ≤ x5_2) = true := decide_eq_true c13
                  clear c13
                  (first | rw [c13b0] | (simp only [i64_w, i32_w]; rw [c13b0]) | skip)
                  by_cases c15 : (bt t132 x5_2) < 128
                  · rw [if_pos c15] at H
                    have c15b0 : decide ((bt t132 x5_2) < 128) = true := decide_eq_true c15
                    clear c15
                    have H' := Aside0.mk H
                    clear H
                    have p14 : 0 ≤ (x5_2 : Int) := of_decide_eq_true (by first | (with_reducible assumption) | assumption)
                    have q14 : x5_2 < (t132.size : Int) := of_decide_eq_true (by first | (with_reducible assumption) | assumption)
                    have hx14 := bt_at t132 x5_2
                    replace p14 := eq_true p14
                    replace q14 := eq_true q14
                    go_wp2
                    go_meet
                    case rel => exact ⟨_, (true), (by first | rfl | (simp; done) | (simp [*]; done)), H', ⟨by have := HJ1.out; have := HK2.out; first | omega | exact Nat.le_refl _⟩, ⟨by repeat (first | (with_reducible first | exact HB.out | apply below_alloc | apply pw_below_drewN | apply below_drew1) | exact HB.out)⟩⟩
                  · rw [if_neg c15] at H
                    have c15b0 : decide ((bt t132 x5_2) < 128) = false := decide_eq_false c15
                    clear c15
                    have H' := Aside0.mk H
                    clear H
                    have p14 : 0 ≤ (x5_2 : Int) := of_decide_eq_true (by first | (with_reducible assumption) | assumption)
                    have q14 : x5_2 < (t132.size : Int) := of_decide_eq_true (by first | (with_reducible assumption) | assumption)
                    have hx14 := bt_at t132 x5_2
                    replace p14 := eq_true p14
                    replace q14 := eq_true q14
                    have p16 : 0 ≤ (x5_2 : Int) := of_decide_eq_true (by first | (with_reducible assumption) | assumption)
                    have q16 : x5_2 < (t132.size : Int) := of_decide_eq_true (by first | (with_reducible assumption) | assumption)
                    have hx16 := bt_at t132 x5_2
                    replace p16 := eq_true p16
                    replace q16 := eq_true q16
                    go_wp2
                    go_meet
                    case rel => exact ⟨_, (decide ((bt t132 x5_2) > 191)), (by first | rfl | (simp; done) | (simp [*]; done)), H', ⟨by have := HJ1.out; have := HK2.out; first | omega | exact Nat.le_refl _⟩, ⟨by repeat (first | (with_reducible first | exact HB.out | apply below_alloc | apply pw_below_drewN | apply below_drew1) | exact HB.out)⟩⟩
                · rw [if_neg c13] at H
                  exact absurd H (by simp)
              case rest =>
                clear HC12
                try clear c1
                try clear p1
                try clear q1
                try clear hx1
                try clear p2
                try clear c3
                try clear c3b0
                try clear c3b1
                try clear c6
                try clear c9
                try clear c10
                try clear c11
                try clear c11b0
                try clear c13
                try clear c13b0
                try clear c14
                try clear p14
                try clear q14
                try clear hx14
                try clear c15
                try clear c15b0
                try clear p16
                try clear q16
                try clear hx16
                try clear p14
                try clear p16
                try clear p2
                try clear q14
                try clear q16
                obtain ⟨kq, x32_11, rfl, HA, HJ11, HB⟩ := hcut
                cases kq with
                | zero => exact absurd HA.out (by simp [portierelaw01_InputMany.j2])
                | succ kj11 =>
                  have H := HA.out
                  clear HA
                  simp only [portierelaw01_InputMany.j2] at H
                  by_cases c17 : x32_11 = true
                  · subst c17
                    have H1 : (if 0 ≤ x5_2 then (if x5_2 < (t132.size : Int) then (if (bt t132 x5_2) = 13 then (some false) else (portierelaw01_InputMany.l0 kj11 l0 t132 (wrap64 (x4_2 + 1)) (wrap64 (x5_2 + 1)))) else (none)) else (none)) = some r := by rw [if_pos rfl] at H; exact H
                    clear H
                    have H := H1
                    clear H1
                    by_cases c18 : 0 ≤ x5_2
                    · rw [if_pos c18] at H
                      have c18b0 : decide (0 ≤ x5_2) = true := decide_eq_true c18
                      clear c18
                      by_cases c19 : x5_2 < (t132.size : Int)
                      · rw [if_pos c19] at H
                        have c19b0 : decide (x5_2 < (t132.size : Int)) = true := decide_eq_true c19
                        clear c19
                        by_cases c21 : (bt t132 x5_2) = 13
                        · rw [if_pos c21] at H
                          have c21b0 : ((bt t132 x5_2) == 13) = true := beq_iff_eq.mpr c21
                          have c21b1 : ((bt t132 x5_2) != 13) = false := bne_eq_false_iff_eq.mpr c21
                          clear c21
                          obtain rfl := Option.some.inj H
                          have p20 : 0 ≤ (x5_2 : Int) := of_decide_eq_true (by first | (with_reducible assumption) | assumption)
                          have q20 : x5_2 < (t132.size : Int) := of_decide_eq_true (by first | (with_reducible assumption) | assumption)
                          have hx20 := bt_at t132 x5_2
                          replace p20 := eq_true p20
                          replace q20 := eq_true q20
                          go_wp2
                          go_ret
                          exact ⟨by first | rfl | (simp [errW_none, errW_some] <;> rfl) | (simp [*, errW_none, errW_some] <;> rfl), by repeat (first | (with_reducible first | exact HB.out | apply below_alloc | apply pw_below_drewN | apply below_drew1) | exact HB.out)⟩
                        · rw [if_neg c21] at H
                          have c21b0 : ((bt t132 x5_2) == 13) = false := beq_eq_false_iff_ne.mpr c21
                          have c21b1 : ((bt t132 x5_2) != 13) = true := bne_iff_ne.mpr c21
                          have H' := Aside0.mk H
                          clear H
                          have p20 : 0 ≤ (x5_2 : Int) := of_decide_eq_true (by first | (with_reducible assumption) | assumption)
                          have q20 : x5_2 < (t132.size : Int) := of_decide_eq_true (by first | (with_reducible assumption) | assumption)
                          have hx20 := bt_at t132 x5_2
                          replace p20 := eq_true p20
                          replace q20 := eq_true q20
                          go_wp2
                          go_roundg kj11
                          case measure => have := HJ1.out; have := HK2.out; have := HJ11.out; omega
                          case rel => exact ⟨(wrap64 (x4_2 + 1)), (wrap64 (x5_2 + 1)), (by first | rfl | (simp; done) | (simp [*]; done)), (by first | rfl | (simp; done) | (simp [*]; done)), H', ⟨by have := HJ1.out; have := HK2.out; have := HJ11.out; omega⟩, ⟨by repeat (first | (with_reducible first | exact HB.out | apply below_alloc | apply pw_below_drewN | apply below_drew1) | exact HB.out)⟩⟩
                      · rw [if_neg c19] at H
                        exact absurd H (by simp)
                    · rw [if_neg c18] at H
                      exact absurd H (by simp)
                  · replace c17 := Bool.eq_false_iff.mpr c17
                    subst c17
                    have H1 : (if 0 ≤ x5_2 then (if x5_2 < (t132.size : Int) then (if (bt t132 x5_2) = 13 then (some false) else (portierelaw01_InputMany.l0 kj11 l0 t132 x4_2 (wrap64 (x5_2 + 1)))) else (none)) else (none)) = some r := by rw [if_neg (show ¬ (false = true) by decide)] at H; exact H
                    clear H
                    have H := H1
                    clear H1
                    by_cases c22 : 0 ≤ x5_2
                    · rw [if_pos c22] at H
                      have c22b0 : decide (0 ≤ x5_2) = true := decide_eq_true c22
                      clear c22
                      by_cases c23 : x5_2 < (t132.size : Int)
                      · rw [if_pos c23] at H
                        have c23b0 : decide (x5_2 < (t132.size : Int)) = true := decide_eq_true c23
                        clear c23
                        by_cases c25 : (bt t132 x5_2) = 13
                        · rw [if_pos c25] at H
                          have c25b0 : ((bt t132 x5_2) == 13) = true := beq_iff_eq.mpr c25
                          have c25b1 : ((bt t132 x5_2) != 13) = false := bne_eq_false_iff_eq.mpr c25
                          clear c25
                          obtain rfl := Option.some.inj H
                          have p24 : 0 ≤ (x5_2 : Int) := of_decide_eq_true (by first | (with_reducible assumption) | assumption)
                          have q24 : x5_2 < (t132.size : Int) := of_decide_eq_true (by first | (with_reducible assumption) | assumption)
                          have hx24 := bt_at t132 x5_2
                          replace p24 := eq_true p24
                          replace q24 := eq_true q24
                          go_wp2
                          go_ret
                          exact ⟨by first | rfl | (simp [errW_none, errW_some] <;> rfl) | (simp [*, errW_none, errW_some] <;> rfl), by repeat (first | (with_reducible first | exact HB.out | apply below_alloc | apply pw_below_drewN | apply below_drew1) | exact HB.out)⟩
                        · rw [if_neg c25] at H
                          have c25b0 : ((bt t132 x5_2) == 13) = false := beq_eq_false_iff_ne.mpr c25
                          have c25b1 : ((bt t132 x5_2) != 13) = true := bne_iff_ne.mpr c25
                          have H' := Aside0.mk H
                          clear H
                          have p24 : 0 ≤ (x5_2 : Int) := of_decide_eq_true (by first | (with_reducible assumption) | assumption)
                          have q24 : x5_2 < (t132.size : Int) := of_decide_eq_true (by first | (with_reducible assumption) | assumption)
                          have hx24 := bt_at t132 x5_2
                          replace p24 := eq_true p24
                          replace q24 := eq_true q24
                          go_wp2
                          go_roundg kj11
                          case measure => have := HJ1.out; have := HK2.out; have := HJ11.out; omega
                          case rel => exact ⟨(x4_2), (wrap64 (x5_2 + 1)), (by first | rfl | (simp; done) | (simp [*]; done)), (by first | rfl | (simp; done) | (simp [*]; done)), H', ⟨by have := HJ1.out; have := HK2.out; have := HJ11.out; omega⟩, ⟨by repeat (first | (with_reducible first | exact HB.out | apply below_alloc | apply pw_below_drewN | apply below_drew1) | exact HB.out)⟩⟩
                      · rw [if_neg c23] at H
                        exact absurd H (by simp)
                    · rw [if_neg c22] at H
                      exact absurd H (by simp)
            · rw [if_neg c11] at H
              have c11b0 : decide (x5_2 < (t132.size : Int)) = false := decide_eq_false c11
              clear c11
              by_cases c26 : (t132.size : Int) ≥ 3
              · rw [if_pos c26] at H
                have c26b0 : decide (3 ≤ (t132.size : Int)) = true := decide_eq_true c26
                have c26b1 : decide (3 ≤ t132.size) = true := decide_eq_true (by omega)
                clear c26
                by_cases c27 : 0 ≤ 3
                · rw [if_pos c27] at H
                  have c27b0 := eq_true c27
                  have c27b1 : decide (0 ≤ 3) = true := decide_eq_true c27
                  clear c27
                  by_cases c28 : 3 ≤ (t132.size : Int)
                  · rw [if_pos c28] at H
                    have c28b0 := eq_true c28
                    have c28b1 : decide (3 ≤ (t132.size : Int)) = true := decide_eq_true c28
                    clear c28
                    by_cases c29 : x4_2 ≤ (l0.length : Int)
                    · rw [if_pos c29] at H
                      have c29b0 : decide (x4_2 ≤ (l0.length : Int)) = true := decide_eq_true c29
                      clear c29
                      by_cases c30 : (t132.extract 0 3).toList = ([239, 187, 191] : List UInt8)
                      · rw [if_pos c30] at H
                        have c30b0 : ((t132.extract 0 3).toList == ([239, 187, 191] : List UInt8)) = true := beq_iff_eq.mpr c30
                        have c30b1 : ((t132.extract 0 3).toList != ([239, 187, 191] : List UInt8)) = false := bne_eq_false_iff_eq.mpr c30
                        clear c30
                        obtain rfl := Option.some.inj H
                        go_wp2
                        go_ret
                        exact ⟨by first | rfl | (simp [errW_none, errW_some] <;> rfl) | (simp [*, errW_none, errW_some] <;> rfl), by repeat (first | (with_reducible first | exact HB.out | apply below_alloc | apply pw_below_drewN | apply below_drew1) | exact HB.out)⟩
                      · rw [if_neg c30] at H
                        have c30b0 : ((t132.extract 0 3).toList == ([239, 187, 191] : List UInt8)) = false := beq_eq_false_iff_ne.mpr c30
                        have c30b1 : ((t132.extract 0 3).toList != ([239, 187, 191] : List UInt8)) = true := bne_iff_ne.mpr c30
                        replace H := Option.bind_eq_some_iff.mp H
                        obtain ⟨t133, A310, H⟩ := H
                        replace H : (some (t133.toList == t132.toList)) = some r := H
                        have A31 := Aside0.mk A310
                        clear A310
                        obtain rfl := Option.some.inj H
                        go_wp2_with (first | (go_at_call 14; (with_reducible refine (input_DecodeS.calls t132 t133 _ (hL.below (by repeat (first | (with_reducible first | exact HB.out | apply below_alloc | apply pw_below_drewN | apply below_drew1) | exact HB.out)) hL.size) (by first | rfl | exact size3 _ | exact size6 _ | exact size4 _ | (simp; done) | (rw [ByteArray.size_append]; rfl) | (simp [ByteArray.size_append]; done) | (simp [ByteArray.size_append] <;> omega)) rfl A31.out).mono ?_); rintro e w32 ⟨rfl, hb⟩; have n0_ := Aside0.mk (below_step (by repeat (first | (with_reducible first | exact HB.out | apply below_alloc | apply pw_below_drewN | apply below_drew1) | exact HB.out)) hb); clear HB; have HB := n0_; clear n0_; (try clear hb); (try clear hb2); (try clear hk); (try clear hi)))
                        go_ret
                        exact ⟨by first | rfl | (simp [errW_none, errW_some] <;> rfl) | (simp [*, errW_none, errW_some] <;> rfl), by repeat (first | (with_reducible first | exact HB.out | apply below_alloc | apply pw_below_drewN | apply below_drew1) | exact HB.out)⟩
                    · rw [if_neg c29] at H
                      have c29b0 : decide (x4_2 ≤ (l0.length : Int)) = false := decide_eq_false c29
                      clear c29
                      obtain rfl := Option.some.inj H
                      go_wp2
                      go_ret
                      exact ⟨by first | rfl | (simp [errW_none, errW_some] <;> rfl) | (simp [*, errW_none, errW_some] <;> rfl), by repeat (first | (with_reducible first | exact HB.out | apply below_alloc | apply pw_below_drewN | apply below_drew1) | exact HB.out)⟩
                  · rw [if_neg c28] at H
                    exact absurd H (by simp)
                · rw [if_neg c27] at H
                  exact absurd H (by simp)
              · rw [if_neg c26] at H
                have c26b0 : decide (3 ≤ (t132.size : Int)) = false := decide_eq_false c26
                have c26b1 : decide (3 ≤ t132.size) = false := decide_eq_false (by omega)
                clear c26
                by_cases c33 : x4_2 ≤ (l0.length : Int)
                · rw [if_pos c33] at H
                  have c33b0 : decide (x4_2 ≤ (l0.length : Int)) = true := decide_eq_true c33
                  clear c33
                  replace H := Option.bind_eq_some_iff.mp H
                  obtain ⟨t134, A340, H⟩ := H
                  replace H : (some (t134.toList == t132.toList)) = some r := H
                  have A34 := Aside0.mk A340
                  clear A340
                  obtain rfl := Option.some.inj H
                  go_wp2_with (first | (go_at_call 14; (with_reducible refine (input_DecodeS.calls t132 t134 _ (hL.below (by repeat (first | (with_reducible first | exact HB.out | apply below_alloc | apply pw_below_drewN | apply below_drew1) | exact HB.out)) hL.size) (by first | rfl | exact size3 _ | exact size6 _ | exact size4 _ | (simp; done) | (rw [ByteArray.size_append]; rfl) | (simp [ByteArray.size_append]; done) | (simp [ByteArray.size_append] <;> omega)) rfl A34.out).mono ?_); rintro e w35 ⟨rfl, hb⟩; have n0_ := Aside0.mk (below_step (by repeat (first | (with_reducible first | exact HB.out | apply below_alloc | apply pw_below_drewN | apply below_drew1) | exact HB.out)) hb); clear HB; have HB := n0_; clear n0_; (try clear hb); (try clear hb2); (try clear hk); (try clear hi)))
                  go_ret
                  exact ⟨by first | rfl | (simp [errW_none, errW_some] <;> rfl) | (simp [*, errW_none, errW_some] <;> rfl), by repeat (first | (with_reducible first | exact HB.out | apply below_alloc | apply pw_below_drewN | apply below_drew1) | exact HB.out)⟩
                · rw [if_neg c33] at H
                  have c33b0 : decide (x4_2 ≤ (l0.length : Int)) = false := decide_eq_false c33
                  clear c33
                  obtain rfl := Option.some.inj H
                  go_wp2
                  go_ret
                  exact ⟨by first | rfl | (simp [errW_none, errW_some] <;> rfl) | (simp [*, errW_none, errW_some] <;> rfl), by repeat (first | (with_reducible first | exact HB.out | apply below_alloc | apply pw_below_drewN | apply below_drew1) | exact HB.out)⟩

/-- THE ONE PURE STATEMENT of portierelaw01_InputMany: yours. -/
def portierelaw01_InputMany.Pure : Prop := ∀ (l0 : List Int), l0.length ≤ maxLen → l0.length * 1 ≤ 140737488351232 → (∀ x ∈ l0, (Lit.int .u8 x).wf = true) → ∃ k, portierelaw01_InputMany.f k l0 = some true
theorem portierelaw01_InputMany.walk (P : portierelaw01_InputMany.Pure) (a0 : Option Addr) (len0 cap0 : Nat) (z0 : List Int) (w : World) (hL : LaidW w) (w0 : (a0 = none ∧ len0 = 0 ∧ cap0 = 0 ∧ z0 = []) ∨ ∃ x, a0 = some x ∧ len0 ≤ cap0 ∧ cap0 ≤ maxLen ∧ z0.length = cap0 ∧ (∀ i, i < z0.length → w.cell? (x.add i) = some (.int .u8 (z0.getD i 0))) ∧ ∀ n ∈ z0, (Lit.int .u8 n).wf = true) (y0 : len0 * 1 ≤ 140737488351232) :
    Calls Tryd.prog 9 #[.slice a0 len0 cap0] w fun e w' => e = .returned (.bool true) ∧ Below w.heap.size w w' := by
  obtain ⟨l0, rfl, hr0, hm0, hw0, hc0⟩ := ReadsInt.ofRowC w0
  obtain ⟨k, h⟩ := P l0 hm0 y0 hw0
  refine (portierelaw01_InputMany.calls k _ _ l0 true w hL (Kd.C_of_reads (d := (0 : Int)) (h1 := fun _ => rfl) hr0) hc0 h).mono ?_
  rintro e w' ⟨rfl, hd⟩
  exact ⟨rfl, hd⟩

/-! ### portierelaw01_InputMark: function 4 -/
mutual
def portierelaw01_InputMark.j0 : Nat → ByteArray → Bool → Option (Bool)
  | 0, _, _ => none
  | k + 1, x0, x11 => if x11 = true then ((portierelaw01_known.f).bind fun t136 => (some t136)) else (portierelaw01_InputMark.l0 k x0 (⟨#[]⟩ : ByteArray) 0)
def portierelaw01_InputMark.l0 : Nat → ByteArray → ByteArray → Int → Option (Bool)
  | 0, _, _, _ => none
  | k + 1, x0, x3, x4 => if x4 < (x0.size : Int) then (if 0 ≤ x4 then ((some (([((Int.tmod (bt x0 x4) 95) + 32) % 256] : List Int) : List Int)).bind fun y137 => (if x3.size + (strOfNums y137).size ≤ 9223372036854775807 then (portierelaw01_InputMark.l0 k x0 (x3 ++ (strOfNums y137)) (wrap64 (x4 + 1))) else (none))) else (none)) else (if 3 + x3.size ≤ 9223372036854775807 then ((input_DecodeS.f ((⟨#[239, 187, 191]⟩ : ByteArray) ++ x3)).bind fun t140 => (if t140.toList = x3.toList then (if 6 + x3.size ≤ 9223372036854775807 then ((input_DecodeS.f ((⟨#[239, 187, 191, 239, 187, 191]⟩ : ByteArray) ++ x3)).bind fun t141 => (if t141.toList = ((⟨#[239, 187, 191]⟩ : ByteArray) ++ x3).toList then (if 4 + x3.size ≤ 9223372036854775807 then ((input_DecodeS.f ((⟨#[120, 239, 187, 191]⟩ : ByteArray) ++ x3)).bind fun t142 => (some (t142.toList == ((⟨#[120, 239, 187, 191]⟩ : ByteArray) ++ x3).toList))) else (none)) else (some false))) else (none)) else (some false))) else (none))
end
def portierelaw01_InputMark.f (k : Nat) (a0 : ByteArray) : Option (Bool) := if (a0.size : Int) > 500 then (portierelaw01_InputMark.j0 k a0 true) else ((portierelaw01_known.f).bind fun t135 => (portierelaw01_InputMark.j0 k a0 (!t135)))
theorem portierelaw01_InputMark.mono_l : ∀ k, (∀ y0 y1, LeO (portierelaw01_InputMark.j0 k y0 y1) (portierelaw01_InputMark.j0 (k + 1) y0 y1)) ∧ (∀ y0 y1 y2, LeO (portierelaw01_InputMark.l0 k y0 y1 y2) (portierelaw01_InputMark.l0 (k + 1) y0 y1 y2))
  | 0 => ⟨fun _ _ r h => by simp [portierelaw01_InputMark.j0] at h, fun _ _ _ r h => by simp [portierelaw01_InputMark.l0] at h⟩
  | k + 1 => by
    obtain ⟨ih0, ih1⟩ := portierelaw01_InputMark.mono_l k
    refine ⟨?_, ?_⟩
    · intro y0 y1
      unfold portierelaw01_InputMark.j0
      repeat' first
      | (with_reducible exact ih0 _ _)
      | (with_reducible exact ih1 _ _ _)
      | (with_reducible exact LeO.refl _)
      | (with_reducible exact LeO.none _)
      | (with_reducible refine LeO.ite ?_ ?_)
      | (with_reducible refine LeO.bind ?_ (fun _ => ?_))
      | exact ih0 _ _
      | exact ih1 _ _ _
      | exact LeO.none _
      | refine LeO.ite ?_ ?_
      | refine LeO.bind ?_ (fun _ => ?_)
    · intro y0 y1 y2
      unfold portierelaw01_InputMark.l0
      repeat' first
      | (with_reducible exact ih0 _ _)
      | (with_reducible exact ih1 _ _ _)
      | (with_reducible exact LeO.refl _)
      | (with_reducible exact LeO.none _)
      | (with_reducible refine LeO.ite ?_ ?_)
      | (with_reducible refine LeO.bind ?_ (fun _ => ?_))
      | exact ih0 _ _
      | exact ih1 _ _ _
      | exact LeO.none _
      | refine LeO.ite ?_ ?_
      | refine LeO.bind ?_ (fun _ => ?_)
theorem portierelaw01_InputMark.mono : ∀ a0 k, LeO (portierelaw01_InputMark.f k a0) (portierelaw01_InputMark.f (k + 1) a0) := by
  intro a0 k
  obtain ⟨ih0, ih1⟩ := portierelaw01_InputMark.mono_l k
  unfold portierelaw01_InputMark.f
  repeat' first
      | (with_reducible exact ih0 _ _)
      | (with_reducible exact ih1 _ _ _)
      | (with_reducible exact LeO.refl _)
      | (with_reducible exact LeO.none _)
      | (with_reducible refine LeO.ite ?_ ?_)
      | (with_reducible refine LeO.bind ?_ (fun _ => ?_))
      | exact ih0 _ _
      | exact ih1 _ _ _
      | exact LeO.none _
      | refine LeO.ite ?_ ?_
      | refine LeO.bind ?_ (fun _ => ?_)
set_option maxHeartbeats 8000000 in
set_option maxRecDepth 100000 in
theorem portierelaw01_InputMark.calls (k : Nat) (a0 : ByteArray) (r : Bool) (w : World) (hL : LaidW w) (h : portierelaw01_InputMark.f k a0 = some r) :
    Calls Tryd.prog 4 #[.string a0] w fun e w' => e = .returned (.bool r) ∧ Below w.heap.size w w' := by
  have HB := Aside0.mk (Below.refl w.heap.size w)
  have H : (if (a0.size : Int) > 500 then (portierelaw01_InputMark.j0 k a0 true) else ((portierelaw01_known.f).bind fun t135 => (portierelaw01_InputMark.j0 k a0 (!t135)))) = some r := h
  clear h
  have HC2 := Aside0.mk H
  clear H
  go_enter Tryd.func4, Tryd.ntmps4
  go_upto_region 1 with (fail)
  go_cut [11] (fun v11 wc => ∃ (kq : Nat) (x11_1 : Bool), v11 = .bool x11_1 ∧ Aside0 (portierelaw01_InputMark.j0 kq a0 x11_1 = some r) ∧ Aside0 (kq ≤ k) ∧ Aside0 (Below w.heap.size w wc))
  case first =>
    have H := HC2.out
    clear HC2
    by_cases c3 : (a0.size : Int) > 500
    · rw [if_pos c3] at H
      have c3b0 : decide (500 < (a0.size : Int)) = true := decide_eq_true c3
      have c3b1 : decide (500 < a0.size) = true := decide_eq_true (by omega)
      clear c3
      (first | rw [c3b0] | (simp only [i64_w, i32_w]; rw [c3b0]) | skip)
      have H' := Aside0.mk H
      clear H
      go_wp2
      go_meet
      case rel => exact ⟨_, (true), (by first | rfl | (simp; done) | (simp [*]; done)), H', ⟨by first | omega | exact Nat.le_refl _⟩, ⟨by repeat (first | (with_reducible first | exact HB.out | apply below_alloc | apply pw_below_drewN | apply below_drew1) | exact HB.out)⟩⟩
    · rw [if_neg c3] at H
      have c3b0 : decide (500 < (a0.size : Int)) = false := decide_eq_false c3
      have c3b1 : decide (500 < a0.size) = false := decide_eq_false (by omega)
      clear c3
      (first | rw [c3b0] | (simp only [i64_w, i32_w]; rw [c3b0]) | skip)
      replace H := Option.bind_eq_some_iff.mp H
      obtain ⟨t135, A40, H⟩ := H
      replace H : (portierelaw01_InputMark.j0 k a0 (!t135)) = some r := H
      have A4 := Aside0.mk A40
      clear A40
      have H' := Aside0.mk H
      clear H
      go_wp2_with (first | (go_at_call 10; (with_reducible refine (portierelaw01_known.calls t135 _ (hL.below (by repeat (first | (with_reducible first | exact HB.out | apply below_alloc | apply pw_below_drewN | apply below_drew1) | exact HB.out)) hL.size) A4.out).mono ?_); rintro e w5 ⟨rfl, hb⟩; have n0_ := Aside0.mk (below_step (by repeat (first | (with_reducible first | exact HB.out | apply below_alloc | apply pw_below_drewN | apply below_drew1) | exact HB.out)) hb); clear HB; have HB := n0_; clear n0_; (try clear hb); (try clear hb2); (try clear hk); (try clear hi)))
      go_meet
      case rel => exact ⟨_, (!t135), (by first | rfl | (simp; done) | (simp [*]; done)), H', ⟨by first | omega | exact Nat.le_refl _⟩, ⟨by repeat (first | (with_reducible first | exact HB.out | apply below_alloc | apply pw_below_drewN | apply below_drew1) | exact HB.out)⟩⟩
  case rest =>
    clear HC2
    try clear p2
    try clear c3
    try clear c3b0
    try clear c3b1
    try clear c4
    obtain ⟨kq, x11_1, rfl, HA, HJ1, HB⟩ := hcut
    cases kq with
    | zero => exact absurd HA.out (by simp [portierelaw01_InputMark.j0])
    | succ kj1 =>
      have H := HA.out
      clear HA
      simp only [portierelaw01_InputMark.j0] at H
      by_cases c6 : x11_1 = true
      · subst c6
        have H1 : ((portierelaw01_known.f).bind fun t136 => (some t136)) = some r := by rw [if_pos rfl] at H; exact H
        clear H
        have H := H1
        clear H1
        replace H := Option.bind_eq_some_iff.mp H
        obtain ⟨t136, A70, H⟩ := H
        replace H : (some t136) = some r := H
        have A7 := Aside0.mk A70
        clear A70
        obtain rfl := Option.some.inj H
        go_wp2_with (first | ((with_reducible refine gate_callee (f := 10) rfl ?_); refine goesL_ (some 12) rfl rfl Tryd.func10 (by kernel_rfl) rfl #[] rfl (by (try simp only [List.map_toArray, List.map_cons, List.map_nil]); first | done | rfl | (simp only [List.length_drop, List.length_take]; rfl)) ?_; (with_reducible refine (portierelaw01_known.calls t136 _ (hL.below (by repeat (first | (with_reducible first | exact HB.out | apply below_alloc | apply pw_below_drewN | apply below_drew1) | exact HB.out)) hL.size) A7.out).mono ?_); rintro e w8 ⟨rfl, hb⟩; refine ⟨_, rfl, ?_⟩; have n0_ := Aside0.mk (below_step (by repeat (first | (with_reducible first | exact HB.out | apply below_alloc | apply pw_below_drewN | apply below_drew1) | exact HB.out)) hb); clear HB; have HB := n0_; clear n0_; (try clear hb); (try clear hb2); (try clear hk); (try clear hi)))
        go_ret
        exact ⟨by first | rfl | (simp [errW_none, errW_some] <;> rfl) | (simp [*, errW_none, errW_some] <;> rfl), by repeat (first | (with_reducible first | exact HB.out | apply below_alloc | apply pw_below_drewN | apply below_drew1) | exact HB.out)⟩
      · replace c6 := Bool.eq_false_iff.mpr c6
        subst c6
        have H1 : (portierelaw01_InputMark.l0 kj1 a0 (⟨#[]⟩ : ByteArray) 0) = some r := by rw [if_neg (show ¬ (false = true) by decide)] at H; exact H
        clear H
        have H := H1
        clear H1
        have H' := Aside0.mk H
        clear H
        go_wp2
        go_loopg [3, 4] kj1 (fun kq v3 v4 w' => ∃ (x3_2 : ByteArray) (x4_2 : Int), v3 = .string x3_2 ∧ v4 = .int .i64 x4_2 ∧ Aside0 (portierelaw01_InputMark.l0 kq a0 x3_2 x4_2 = some r) ∧ Aside0 (kq ≤ kj1) ∧ Aside0 (Below w.heap.size w w'))
        case atStart => exact ⟨((⟨#[]⟩ : ByteArray)), (0), (by first | rfl | (simp; done) | (simp [*]; done)), (by first | rfl | (simp; done) | (simp [*]; done)), H', ⟨Nat.le_refl _⟩, ⟨by repeat (first | (with_reducible first | exact HB.out | apply below_alloc | apply pw_below_drewN | apply below_drew1) | exact HB.out)⟩⟩
        case round =>
          clear H'
          try clear c1
          try clear p2
          try clear c3
          try clear c3b0
          try clear c3b1
          try clear c4
          try clear c6
          try clear p2
          obtain ⟨x3_2, x4_2, rfl, rfl, HA, HK2, HB⟩ := hrel
          cases gk with
          | zero => exact absurd HA.out (by simp [portierelaw01_InputMark.l0])
          | succ k2 =>
            have H := HA.out
            clear HA
            simp only [portierelaw01_InputMark.l0] at H
            by_cases c9 : x4_2 < (a0.size : Int)
            · rw [if_pos c9] at H
              have c9b0 : decide (x4_2 < (a0.size : Int)) = true := decide_eq_true c9
              clear c9
              by_cases c10 : 0 ≤ x4_2
              · rw [if_pos c10] at H
                have c10b0 : decide (0 ≤ x4_2) = true := decide_eq_true c10
                clear c10
                obtain ⟨y137, hy137⟩ : ∃ y_ : List Int, y_ = (([((Int.tmod (bt a0 x4_2) 95) + 32) % 256] : List Int)) := ⟨_, rfl⟩
                replace H : (if x3_2.size + (strOfNums y137).size ≤ 9223372036854775807 then (portierelaw01_InputMark.l0 k2 a0 (x3_2 ++ (strOfNums y137)) (wrap64 (x4_2 + 1))) else (none)) = some r := by first | (rw [hy137]; with_reducible exact H) | (have H2_ := (Option.bind_some _ _).symm.trans H; rw [hy137]; with_reducible exact H2_) | (have H2_ := (Option.bind_some _ _).symm.trans H; with_reducible exact H2_) | with_reducible exact H | (rw [hy137]; exact H) | exact H
                have Ny137 := Aside0.mk hy137
                clear hy137
                by_cases c12 : x3_2.size + (strOfNums y137).size ≤ 9223372036854775807
                · rw [if_pos c12] at H
                  have c12b0 := eq_true c12
                  have c12b1 : decide (x3_2.size + (strOfNums y137).size ≤ 9223372036854775807) = true := decide_eq_true c12
                  try have c12b2 : (9223372036854775807 < x3_2.size + (strOfNums y137).size) = False := eq_false (Nat.not_lt.2 c12)
                  have H' := Aside0.mk H
                  clear H
                  have p11 : 0 ≤ (x4_2 : Int) := of_decide_eq_true (by first | (with_reducible assumption) | assumption)
                  have q11 : x4_2 < (a0.size : Int) := of_decide_eq_true (by first | (with_reducible assumption) | assumption)
                  have hx11 := bt_at a0 x4_2
                  replace p11 := eq_true p11
                  replace q11 := eq_true q11
                  go_wp2_with (first | ((with_reducible refine gate_dst (N := 25) rfl ?_); refine Kd.R_lit (Kd.int .u8) _ 5 ?hg (N := 25) ?hd (xs := ([((Int.tmod (bt a0 x4_2) 95) + 32) % 256] : List Int)) (inner := [.int .u8 (((Int.tmod (bt a0 x4_2) 95) + 32) % 256)]) (ok := fun _ => True) (okp := fun _ => True) ?hr ?hp (fun _ hk => hk) trivial (Below.refl _ _) (Nat.le_refl _) (by simp) ?_; (case hd => rfl); (case hg => rfl); (case hr => first | (go_simp; done) | (go_simp; rfl)); (case hp => exact (Reps.one (show Kd.M (Kd.int .u8) _ _ _ (((Int.tmod (bt a0 x4_2) 95) + 32) % 256) [.int .u8 (((Int.tmod (bt a0 x4_2) 95) + 32) % 256)] from rfl) (Reps.none _ _))); intro v138 w13 ho14 hb hg_ hnew_; clear hg_ hnew_; (first | rw [← Ny137.out] at ho14 | (simp only [Int.reduceToNat] at ho14; rw [← Ny137.out] at ho14)); have n0_ := Aside0.mk (Kd.R_lower ho14 (below_size (by repeat (first | (with_reducible first | exact HB.out | apply below_alloc | apply pw_below_drewN | apply below_drew1) | exact HB.out)))); have n1_ := Aside0.mk (below_step (by repeat (first | (with_reducible first | exact HB.out | apply below_alloc | apply pw_below_drewN | apply below_drew1) | exact HB.out)) hb); clear HB; have HO139 := n0_; have HB := n1_; clear n0_ n1_; clear hb ho14; have hcv15 := own_string (P := Tryd.prog) Tryd.underlying23 Tryd.underlying5 Tryd.underlying9 (Kd.own_of_R HO139.out)))
                  go_roundg k2
                  case measure => have := HJ1.out; have := HK2.out; omega
                  case rel => exact ⟨(x3_2 ++ (strOfNums y137)), (wrap64 (x4_2 + 1)), (by first | rfl | (simp; done) | (simp [*]; done)), (by first | rfl | (simp; done) | (simp [*]; done)), H', ⟨by have := HJ1.out; have := HK2.out; omega⟩, ⟨by repeat (first | (with_reducible first | exact HB.out | apply below_alloc | apply pw_below_drewN | apply below_drew1) | exact HB.out)⟩⟩
                · rw [if_neg c12] at H
                  exact absurd H (by simp)
              · rw [if_neg c10] at H
                exact absurd H (by simp)
            · rw [if_neg c9] at H
              have c9b0 : decide (x4_2 < (a0.size : Int)) = false := decide_eq_false c9
              clear c9
              by_cases c16 : 3 + x3_2.size ≤ 9223372036854775807
              · rw [if_pos c16] at H
                have c16b0 := eq_true c16
                have c16b1 : decide (3 + x3_2.size ≤ 9223372036854775807) = true := decide_eq_true c16
                try have c16b2 : (9223372036854775807 < 3 + x3_2.size) = False := eq_false (Nat.not_lt.2 c16)
                replace H := Option.bind_eq_some_iff.mp H
                obtain ⟨t140, A170, H⟩ := H
                replace H : (if t140.toList = x3_2.toList then (if 6 + x3_2.size ≤ 9223372036854775807 then ((input_DecodeS.f ((⟨#[239, 187, 191, 239, 187, 191]⟩ : ByteArray) ++ x3_2)).bind fun t141 => (if t141.toList = ((⟨#[239, 187, 191]⟩ : ByteArray) ++ x3_2).toList then (if 4 + x3_2.size ≤ 9223372036854775807 then ((input_DecodeS.f ((⟨#[120, 239, 187, 191]⟩ : ByteArray) ++ x3_2)).bind fun t142 => (some (t142.toList == ((⟨#[120, 239, 187, 191]⟩ : ByteArray) ++ x3_2).toList))) else (none)) else (some false))) else (none)) else (some false)) = some r := H
                have A17 := Aside0.mk A170
                clear A170
                by_cases c18 : t140.toList = x3_2.toList
                · rw [if_pos c18] at H
                  have c18b0 : (t140.toList == x3_2.toList) = true := beq_iff_eq.mpr c18
                  have c18b1 : (t140.toList != x3_2.toList) = false := bne_eq_false_iff_eq.mpr c18
                  clear c18
                  by_cases c19 : 6 + x3_2.size ≤ 9223372036854775807
                  · rw [if_pos c19] at H
                    have c19b0 := eq_true c19
                    have c19b1 : decide (6 + x3_2.size ≤ 9223372036854775807) = true := decide_eq_true c19
                    try have c19b2 : (9223372036854775807 < 6 + x3_2.size) = False := eq_false (Nat.not_lt.2 c19)
                    replace H := Option.bind_eq_some_iff.mp H
                    obtain ⟨t141, A200, H⟩ := H
                    replace H : (if t141.toList = ((⟨#[239, 187, 191]⟩ : ByteArray) ++ x3_2).toList then (if 4 + x3_2.size ≤ 9223372036854775807 then ((input_DecodeS.f ((⟨#[120, 239, 187, 191]⟩ : ByteArray) ++ x3_2)).bind fun t142 => (some (t142.toList == ((⟨#[120, 239, 187, 191]⟩ : ByteArray) ++ x3_2).toList))) else (none)) else (some false)) = some r := H
                    have A20 := Aside0.mk A200
                    clear A200
                    by_cases c21 : t141.toList = ((⟨#[239, 187, 191]⟩ : ByteArray) ++ x3_2).toList
                    · rw [if_pos c21] at H
                      have c21b0 : (t141.toList == ((⟨#[239, 187, 191]⟩ : ByteArray) ++ x3_2).toList) = true := beq_iff_eq.mpr c21
                      have c21b1 : (t141.toList != ((⟨#[239, 187, 191]⟩ : ByteArray) ++ x3_2).toList) = false := bne_eq_false_iff_eq.mpr c21
                      clear c21
                      by_cases c22 : 4 + x3_2.size ≤ 9223372036854775807
                      · rw [if_pos c22] at H
                        have c22b0 := eq_true c22
                        have c22b1 : decide (4 + x3_2.size ≤ 9223372036854775807) = true := decide_eq_true c22
                        try have c22b2 : (9223372036854775807 < 4 + x3_2.size) = False := eq_false (Nat.not_lt.2 c22)
                        replace H := Option.bind_eq_some_iff.mp H
                        obtain ⟨t142, A230, H⟩ := H
                        replace H : (some (t142.toList == ((⟨#[120, 239, 187, 191]⟩ : ByteArray) ++ x3_2).toList)) = some r := H
                        have A23 := Aside0.mk A230
                        clear A230
                        obtain rfl := Option.some.inj H
                        go_wp2_with (first | (go_at_call 14; (with_reducible refine (input_DecodeS.calls ((⟨#[239, 187, 191]⟩ : ByteArray) ++ x3_2) t140 _ (hL.below (by repeat (first | (with_reducible first | exact HB.out | apply below_alloc | apply pw_below_drewN | apply below_drew1) | exact HB.out)) hL.size) (by first | rfl | exact size3 _ | exact size6 _ | exact size4 _ | (simp; done) | (rw [ByteArray.size_append]; rfl) | (simp [ByteArray.size_append]; done) | (simp [ByteArray.size_append] <;> omega)) rfl A17.out).mono ?_); rintro e w24 ⟨rfl, hb⟩; have n0_ := Aside0.mk (below_step (by repeat (first | (with_reducible first | exact HB.out | apply below_alloc | apply pw_below_drewN | apply below_drew1) | exact HB.out)) hb); clear HB; have HB := n0_; clear n0_; (try clear hb); (try clear hb2); (try clear hk); (try clear hi)) | (go_at_call 14; (with_reducible refine (input_DecodeS.calls ((⟨#[239, 187, 191, 239, 187, 191]⟩ : ByteArray) ++ x3_2) t141 _ (hL.below (by repeat (first | (with_reducible first | exact HB.out | apply below_alloc | apply pw_below_drewN | apply below_drew1) | exact HB.out)) hL.size) (by first | rfl | exact size3 _ | exact size6 _ | exact size4 _ | (simp; done) | (rw [ByteArray.size_append]; rfl) | (simp [ByteArray.size_append]; done) | (simp [ByteArray.size_append] <;> omega)) rfl A20.out).mono ?_); rintro e w25 ⟨rfl, hb⟩; have n0_ := Aside0.mk (below_step (by repeat (first | (with_reducible first | exact HB.out | apply below_alloc | apply pw_below_drewN | apply below_drew1) | exact HB.out)) hb); clear HB; have HB := n0_; clear n0_; (try clear hb); (try clear hb2); (try clear hk); (try clear hi)) | (go_at_call 14; (with_reducible refine (input_DecodeS.calls ((⟨#[120, 239, 187, 191]⟩ : ByteArray) ++ x3_2) t142 _ (hL.below (by repeat (first | (with_reducible first | exact HB.out | apply below_alloc | apply pw_below_drewN | apply below_drew1) | exact HB.out)) hL.size) (by first | rfl | exact size3 _ | exact size6 _ | exact size4 _ | (simp; done) | (rw [ByteArray.size_append]; rfl) | (simp [ByteArray.size_append]; done) | (simp [ByteArray.size_append] <;> omega)) rfl A23.out).mono ?_); rintro e w26 ⟨rfl, hb⟩; have n0_ := Aside0.mk (below_step (by repeat (first | (with_reducible first | exact HB.out | apply below_alloc | apply pw_below_drewN | apply below_drew1) | exact HB.out)) hb); clear HB; have HB := n0_; clear n0_; (try clear hb); (try clear hb2); (try clear hk); (try clear hi)))
                        go_ret
                        exact ⟨by first | rfl | (simp [errW_none, errW_some] <;> rfl) | (simp [*, errW_none, errW_some] <;> rfl), by repeat (first | (with_reducible first | exact HB.out | apply below_alloc | apply pw_below_drewN | apply below_drew1) | exact HB.out)⟩
                      · rw [if_neg c22] at H
                        exact absurd H (by simp)
                    · rw [if_neg c21] at H
                      have c21b0 : (t141.toList == ((⟨#[239, 187, 191]⟩ : ByteArray) ++ x3_2).toList) = false := beq_eq_false_iff_ne.mpr c21
                      have c21b1 : (t141.toList != ((⟨#[239, 187, 191]⟩ : ByteArray) ++ x3_2).toList) = true := bne_iff_ne.mpr c21
                      obtain rfl := Option.some.inj H
                      go_wp2_with (first | (go_at_call 14; (with_reducible refine (input_DecodeS.calls ((⟨#[239, 187, 191]⟩ : ByteArray) ++ x3_2) t140 _ (hL.below (by repeat (first | (with_reducible first | exact HB.out | apply below_alloc | apply pw_below_drewN | apply below_drew1) | exact HB.out)) hL.size) (by first | rfl | exact size3 _ | exact size6 _ | exact size4 _ | (simp; done) | (rw [ByteArray.size_append]; rfl) | (simp [ByteArray.size_append]; done) | (simp [ByteArray.size_append] <;> omega)) rfl A17.out).mono ?_); rintro e w27 ⟨rfl, hb⟩; have n0_ := Aside0.mk (below_step (by repeat (first | (with_reducible first | exact HB.out | apply below_alloc | apply pw_below_drewN | apply below_drew1) | exact HB.out)) hb); clear HB; have HB := n0_; clear n0_; (try clear hb); (try clear hb2); (try clear hk); (try clear hi)) | (go_at_call 14; (with_reducible refine (input_DecodeS.calls ((⟨#[239, 187, 191, 239, 187, 191]⟩ : ByteArray) ++ x3_2) t141 _ (hL.below (by repeat (first | (with_reducible first | exact HB.out | apply below_alloc | apply pw_below_drewN | apply below_drew1) | exact HB.out)) hL.size) (by first | rfl | exact size3 _ | exact size6 _ | exact size4 _ | (simp; done) | (rw [ByteArray.size_append]; rfl) | (simp [ByteArray.size_append]; done) | (simp [ByteArray.size_append] <;> omega)) rfl A20.out).mono ?_); rintro e w28 ⟨rfl, hb⟩; have n0_ := Aside0.mk (below_step (by repeat (first | (with_reducible first | exact HB.out | apply below_alloc | apply pw_below_drewN | apply below_drew1) | exact HB.out)) hb); clear HB; have HB := n0_; clear n0_; (try clear hb); (try clear hb2); (try clear hk); (try clear hi)))
                      go_ret
                      exact ⟨by first | rfl | (simp [errW_none, errW_some] <;> rfl) | (simp [*, errW_none, errW_some] <;> rfl), by repeat (first | (with_reducible first | exact HB.out | apply below_alloc | apply pw_below_drewN | apply below_drew1) | exact HB.out)⟩
                  · rw [if_neg c19] at H
                    exact absurd H (by simp)
                · rw [if_neg c18] at H
                  have c18b0 : (t140.toList == x3_2.toList) = false := beq_eq_false_iff_ne.mpr c18
                  have c18b1 : (t140.toList != x3_2.toList) = true := bne_iff_ne.mpr c18
                  obtain rfl := Option.some.inj H
                  go_wp2_with (first | (go_at_call 14; (with_reducible refine (input_DecodeS.calls ((⟨#[239, 187, 191]⟩ : ByteArray) ++ x3_2) t140 _ (hL.below (by repeat (first | (with_reducible first | exact HB.out | apply below_alloc | apply pw_below_drewN | apply below_drew1) | exact HB.out)) hL.size) (by first | rfl | exact size3 _ | exact size6 _ | exact size4 _ | (simp; done) | (rw [ByteArray.size_append]; rfl) | (simp [ByteArray.size_append]; done) | (simp [ByteArray.size_append] <;> omega)) rfl A17.out).mono ?_); rintro e w29 ⟨rfl, hb⟩; have n0_ := Aside0.mk (below_step (by repeat (first | (with_reducible first | exact HB.out | apply below_alloc | apply pw_below_drewN | apply below_drew1) | exact HB.out)) hb); clear HB; have HB := n0_; clear n0_; (try clear hb); (try clear hb2); (try clear hk); (try clear hi)))
                  go_ret
                  exact ⟨by first | rfl | (simp [errW_none, errW_some] <;> rfl) | (simp [*, errW_none, errW_some] <;> rfl), by repeat (first | (with_reducible first | exact HB.out | apply below_alloc | apply pw_below_drewN | apply below_drew1) | exact HB.out)⟩
              · rw [if_neg c16] at H
                exact absurd H (by simp)

/-- THE ONE PURE STATEMENT of portierelaw01_InputMark: yours. -/
def portierelaw01_InputMark.Pure : Prop := ∀ (a0 : ByteArray), a0.size ≤ 140737488351232 → ∃ k, portierelaw01_InputMark.f k a0 = some true
theorem portierelaw01_InputMark.walk (P : portierelaw01_InputMark.Pure) (a0 : ByteArray) (w : World) (hL : LaidW w) (w0 : a0.size ≤ 140737488351232) :
    Calls Tryd.prog 4 #[.string a0] w fun e w' => e = .returned (.bool true) ∧ Below w.heap.size w w' := by
  obtain ⟨k, h⟩ := P a0 w0
  refine (portierelaw01_InputMark.calls k a0 true w hL h).mono ?_
  rintro e w' ⟨rfl, hd⟩
  exact ⟨rfl, hd⟩

end Go.Proofs.YtoejbjmdcokojaaDoor.Q

-- patched
