-- Written by wip/tools/gprint.py of this session, over the kit's print. Lean checks it.
import Derived.Test.YtijjfkjihifjpaaPx0
import Derived.Test.YtijjfkjihifjpaaPx6
import Derived.Test.YtijjfkjihifjpaaPx8
import Derived.Test.YtijjfkjihifjpaaPx9
import Derived.Test.YtijjfkjihifjpaaPx10
namespace Go.Proofs.Ytijjfkjihifjpaa.P
open Go.Proofs.Ytijjfkjihifjpaa.Hand
open Go.RowKit Go.Proofs.YtijjfkjihifjpaaW.PrintWords Go.Proofs.YtijjfkjihifjpaaW.PrintLast Go.Proofs.YtijjfkjihifjpaaW.PrintMore
attribute [local go_sem] max2_int min2_int max_two min_two max_three min_three max_four min_four   -- for this text's walks alone
attribute [local go_sem] Go.IntKind.wrap_u32
set_option linter.unusedVariables false
set_option linter.unusedSimpArgs false

/-! ### portierelaw04_CharrefNone: function 8 -/
mutual
def portierelaw04_CharrefNone.j0 : Nat → ByteArray → Int → Bool → Bool → Option (Bool)
  | 0, _, _, _, _ => none
  | k + 1, x0, x1, x2, x24 => if x24 = true then ((portierelaw04_known.f).bind fun t194 => (some t194)) else (portierelaw04_CharrefNone.l0 k x0 x1 x2 (⟨#[]⟩ : ByteArray) 0)
def portierelaw04_CharrefNone.l0 : Nat → ByteArray → Int → Bool → ByteArray → Int → Option (Bool)
  | 0, _, _, _, _, _ => none
  | k + 1, x0, x1, x2, x7, x8 => if x8 < (x0.size : Int) then (if 0 ≤ x8 then (if (bt x0 x8) = 38 then (portierelaw04_CharrefNone.l0 k x0 x1 x2 x7 (wrap64 (x8 + 1))) else (if x8 ≤ (wrap64 (x8 + 1)) then (if (wrap64 (x8 + 1)) ≤ (x0.size : Int) then (if x7.size + (((wrap64 (x8 + 1)) : Int).toNat - (x8 : Int).toNat) ≤ 9223372036854775807 then (portierelaw04_CharrefNone.l0 k x0 x1 x2 (x7 ++ (x0.extract (x8 : Int).toNat ((wrap64 (x8 + 1)) : Int).toNat)) (wrap64 (x8 + 1))) else (none)) else (none)) else (none))) else (none)) else ((charref_Take.f x7 x1 x2).bind fun bt195 => ((charref_Take.f x0 (wrap64 ((x0.size : Int) + ((mx x1 0) % 1000))) x2).bind fun bt198 => (if 2 + x7.size ≤ 9223372036854775807 then ((charref_Take.f ((⟨#[38, 32]⟩ : ByteArray) ++ x7) 0 x2).bind fun bt201 => (if bt195.2.1 = 0 then (if bt195.2.2 = 0 then (if bt198.2.1 = 0 then (if bt198.2.2 = 0 then (if bt201.2.1 = 0 then (if bt201.2.2 = 0 then ((charref_All.f x7 x2).bind fun t204 => (some (t204.toList == x7.toList))) else (some false)) else (some false)) else (some false)) else (some false)) else (some false)) else (some false))) else (none))))
end
def portierelaw04_CharrefNone.f (k : Nat) (a0 : ByteArray) (a1 : Int) (a2 : Bool) : Option (Bool) := if (a0.size : Int) > 1000 then (portierelaw04_CharrefNone.j0 k a0 a1 a2 true) else ((portierelaw04_known.f).bind fun t193 => (portierelaw04_CharrefNone.j0 k a0 a1 a2 (!t193)))
theorem portierelaw04_CharrefNone.mono_l : ∀ k, (∀ y0 y1 y2 y3, LeO (portierelaw04_CharrefNone.j0 k y0 y1 y2 y3) (portierelaw04_CharrefNone.j0 (k + 1) y0 y1 y2 y3)) ∧ (∀ y0 y1 y2 y3 y4, LeO (portierelaw04_CharrefNone.l0 k y0 y1 y2 y3 y4) (portierelaw04_CharrefNone.l0 (k + 1) y0 y1 y2 y3 y4))
  | 0 => ⟨fun _ _ _ _ r h => by simp [portierelaw04_CharrefNone.j0] at h, fun _ _ _ _ _ r h => by simp [portierelaw04_CharrefNone.l0] at h⟩
  | k + 1 => by
    obtain ⟨ih0, ih1⟩ := portierelaw04_CharrefNone.mono_l k
    refine ⟨?_, ?_⟩
    · intro y0 y1 y2 y3
      unfold portierelaw04_CharrefNone.j0
      repeat' first
      | (with_reducible exact ih0 _ _ _ _)
      | (with_reducible exact ih1 _ _ _ _ _)
      | (with_reducible exact LeO.refl _)
      | (with_reducible exact LeO.none _)
      | (with_reducible refine LeO.ite ?_ ?_)
      | (with_reducible refine LeO.bind ?_ (fun _ => ?_))
      | exact ih0 _ _ _ _
      | exact ih1 _ _ _ _ _
      | exact LeO.none _
      | refine LeO.ite ?_ ?_
      | refine LeO.bind ?_ (fun _ => ?_)
    · intro y0 y1 y2 y3 y4
      unfold portierelaw04_CharrefNone.l0
      repeat' first
      | (with_reducible exact ih0 _ _ _ _)
      | (with_reducible exact ih1 _ _ _ _ _)
      | (with_reducible exact LeO.refl _)
      | (with_reducible exact LeO.none _)
      | (with_reducible refine LeO.ite ?_ ?_)
      | (with_reducible refine LeO.bind ?_ (fun _ => ?_))
      | exact ih0 _ _ _ _
      | exact ih1 _ _ _ _ _
      | exact LeO.none _
      | refine LeO.ite ?_ ?_
      | refine LeO.bind ?_ (fun _ => ?_)
theorem portierelaw04_CharrefNone.mono : ∀ a0 a1 a2 k, LeO (portierelaw04_CharrefNone.f k a0 a1 a2) (portierelaw04_CharrefNone.f (k + 1) a0 a1 a2) := by
  intro a0 a1 a2 k
  obtain ⟨ih0, ih1⟩ := portierelaw04_CharrefNone.mono_l k
  unfold portierelaw04_CharrefNone.f
  repeat' first
      | (with_reducible exact ih0 _ _ _ _)
      | (with_reducible exact ih1 _ _ _ _ _)
      | (with_reducible exact LeO.refl _)
      | (with_reducible exact LeO.none _)
      | (with_reducible refine LeO.ite ?_ ?_)
      | (with_reducible refine LeO.bind ?_ (fun _ => ?_))
      | exact ih0 _ _ _ _
      | exact ih1 _ _ _ _ _
      | exact LeO.none _
      | refine LeO.ite ?_ ?_
      | refine LeO.bind ?_ (fun _ => ?_)
set_option maxHeartbeats 8000000 in
set_option maxRecDepth 100000 in
theorem portierelaw04_CharrefNone.calls (k : Nat) (a0 : ByteArray) (a1 : Int) (a2 : Bool) (r : Bool) (w : World) (h : portierelaw04_CharrefNone.f k a0 a1 a2 = some r) :
    Calls Try.prog 8 #[.string a0, .int .i64 a1, .bool a2] w fun e w' => e = .returned (.bool r) ∧ Below w.heap.size w w' := by
  have HB := Aside0.mk (Below.refl w.heap.size w)
  have H : (if (a0.size : Int) > 1000 then (portierelaw04_CharrefNone.j0 k a0 a1 a2 true) else ((portierelaw04_known.f).bind fun t193 => (portierelaw04_CharrefNone.j0 k a0 a1 a2 (!t193)))) = some r := h
  clear h
  have HC4 := Aside0.mk H
  clear H
  go_enter Try.func8, Try.ntmps8
  go_upto_region 1 with (fail)
  go_cut [24] (fun v24 wc => ∃ (kq : Nat) (x24_3 : Bool), v24 = .bool x24_3 ∧ Aside0 (portierelaw04_CharrefNone.j0 kq a0 a1 a2 x24_3 = some r) ∧ Aside0 (kq ≤ k) ∧ Aside0 (Below w.heap.size w wc))
  case first =>
    have H := HC4.out
    clear HC4
    by_cases c5 : (a0.size : Int) > 1000
    · rw [if_pos c5] at H
      have c5b0 : decide (1000 < (a0.size : Int)) = true := decide_eq_true c5
      have c5b1 : decide (1000 < a0.size) = true := decide_eq_true (by omega)
      clear c5
      (first | rw [c5b0] | (simp only [i64_w, i32_w]; rw [c5b0]) | skip)
      have H' := Aside0.mk H
      clear H
      go_wp2
      go_meet
      case rel => exact ⟨_, (true), (by first | rfl | (simp; done) | (simp [*]; done)), H', ⟨by first | omega | exact Nat.le_refl _⟩, ⟨by repeat (first | (with_reducible first | exact HB.out | apply below_alloc | apply pw_below_drewN | apply below_drew1) | exact HB.out)⟩⟩
    · rw [if_neg c5] at H
      have c5b0 : decide (1000 < (a0.size : Int)) = false := decide_eq_false c5
      have c5b1 : decide (1000 < a0.size) = false := decide_eq_false (by omega)
      clear c5
      (first | rw [c5b0] | (simp only [i64_w, i32_w]; rw [c5b0]) | skip)
      replace H := Option.bind_eq_some_iff.mp H
      obtain ⟨t193, A60, H⟩ := H
      replace H : (portierelaw04_CharrefNone.j0 k a0 a1 a2 (!t193)) = some r := H
      have A6 := Aside0.mk A60
      clear A60
      have H' := Aside0.mk H
      clear H
      go_wp2_with (first | (go_at_call 10; (with_reducible refine (portierelaw04_known.calls  t193 _ A6.out).mono ?_); rintro e w7 ⟨rfl, hb⟩; have n0_ := Aside0.mk (below_step (by repeat (first | (with_reducible first | exact HB.out | apply below_alloc | apply pw_below_drewN | apply below_drew1) | exact HB.out)) hb); clear HB; have HB := n0_; clear n0_; (try clear hb); (try clear hb2); (try clear hk); (try clear hi)))
      go_meet
      case rel => exact ⟨_, (!t193), (by first | rfl | (simp; done) | (simp [*]; done)), H', ⟨by first | omega | exact Nat.le_refl _⟩, ⟨by repeat (first | (with_reducible first | exact HB.out | apply below_alloc | apply pw_below_drewN | apply below_drew1) | exact HB.out)⟩⟩
  case rest =>
    clear HC4
    try clear p2
    try clear c5
    try clear c5b0
    try clear c5b1
    obtain ⟨kq, x24_3, rfl, HA, HJ3, HB⟩ := hcut
    cases kq with
    | zero => exact absurd HA.out (by simp [portierelaw04_CharrefNone.j0])
    | succ kj3 =>
      have H := HA.out
      clear HA
      simp only [portierelaw04_CharrefNone.j0] at H
      by_cases c8 : x24_3 = true
      · subst c8
        have H1 : ((portierelaw04_known.f).bind fun t194 => (some t194)) = some r := by rw [if_pos rfl] at H; exact H
        clear H
        have H := H1
        clear H1
        replace H := Option.bind_eq_some_iff.mp H
        obtain ⟨t194, A90, H⟩ := H
        replace H : (some t194) = some r := H
        have A9 := Aside0.mk A90
        clear A90
        obtain rfl := Option.some.inj H
        go_wp2_with (first | ((with_reducible refine gate_callee (f := 10) rfl ?_); refine goesL_ (some 25) rfl rfl Try.func10 (by kernel_rfl) rfl #[] rfl (by (try simp only [List.map_toArray, List.map_cons, List.map_nil]); first | done | rfl | (simp only [List.length_drop, List.length_take]; rfl)) ?_; (with_reducible refine (portierelaw04_known.calls  t194 _ A9.out).mono ?_); rintro e w10 ⟨rfl, hb⟩; refine ⟨_, rfl, ?_⟩; have n0_ := Aside0.mk (below_step (by repeat (first | (with_reducible first | exact HB.out | apply below_alloc | apply pw_below_drewN | apply below_drew1) | exact HB.out)) hb); clear HB; have HB := n0_; clear n0_; (try clear hb); (try clear hb2); (try clear hk); (try clear hi)))
        go_ret
        exact ⟨by first | rfl | (simp [errW_none, errW_some] <;> rfl) | (simp [*, errW_none, errW_some] <;> rfl), by repeat (first | (with_reducible first | exact HB.out | apply below_alloc | apply pw_below_drewN | apply below_drew1) | exact HB.out)⟩
      · replace c8 := Bool.eq_false_iff.mpr c8
        subst c8
        have H1 : (portierelaw04_CharrefNone.l0 kj3 a0 a1 a2 (⟨#[]⟩ : ByteArray) 0) = some r := by rw [if_neg (show ¬ (false = true) by decide)] at H; exact H
        clear H
        have H := H1
        clear H1
        have H' := Aside0.mk H
        clear H
        go_wp2
        go_loopg [7, 8] kj3 (fun kq v7 v8 w' => ∃ (x7_2 : ByteArray) (x8_2 : Int), v7 = .string x7_2 ∧ v8 = .int .i64 x8_2 ∧ Aside0 (portierelaw04_CharrefNone.l0 kq a0 a1 a2 x7_2 x8_2 = some r) ∧ Aside0 (kq ≤ kj3) ∧ Aside0 (Below w.heap.size w w'))
        case atStart => exact ⟨((⟨#[]⟩ : ByteArray)), (0), (by first | rfl | (simp; done) | (simp [*]; done)), (by first | rfl | (simp; done) | (simp [*]; done)), H', ⟨Nat.le_refl _⟩, ⟨by repeat (first | (with_reducible first | exact HB.out | apply below_alloc | apply pw_below_drewN | apply below_drew1) | exact HB.out)⟩⟩
        case round =>
          clear H'
          try clear c1
          try clear p2
          try clear c5
          try clear c5b0
          try clear c5b1
          try clear c8
          try clear c10
          try clear p2
          obtain ⟨x7_2, x8_2, rfl, rfl, HA, HK2, HB⟩ := hrel
          cases gk with
          | zero => exact absurd HA.out (by simp [portierelaw04_CharrefNone.l0])
          | succ k2 =>
            have H := HA.out
            clear HA
            simp only [portierelaw04_CharrefNone.l0] at H
            by_cases c11 : x8_2 < (a0.size : Int)
            · rw [if_pos c11] at H
              have c11b0 : decide (x8_2 < (a0.size : Int)) = true := decide_eq_true c11
              clear c11
              by_cases c12 : 0 ≤ x8_2
              · rw [if_pos c12] at H
                have c12b0 : decide (0 ≤ x8_2) = true := decide_eq_true c12
                clear c12
                by_cases c14 : (bt a0 x8_2) = 38
                · rw [if_pos c14] at H
                  have c14b0 : ((bt a0 x8_2) == 38) = true := beq_iff_eq.mpr c14
                  have c14b1 : ((bt a0 x8_2) != 38) = false := bne_eq_false_iff_eq.mpr c14
                  clear c14
                  have H' := Aside0.mk H
                  clear H
                  have p13 : 0 ≤ (x8_2 : Int) := of_decide_eq_true (by first | (with_reducible assumption) | assumption)
                  have q13 : x8_2 < (a0.size : Int) := of_decide_eq_true (by first | (with_reducible assumption) | assumption)
                  have hx13 := bt_at a0 x8_2
                  replace p13 := eq_true p13
                  replace q13 := eq_true q13
                  go_wp2
                  go_roundg k2
                  case measure => have := HJ3.out; have := HK2.out; omega
                  case rel => exact ⟨(x7_2), (wrap64 (x8_2 + 1)), (by first | rfl | (simp; done) | (simp [*]; done)), (by first | rfl | (simp; done) | (simp [*]; done)), H', ⟨by have := HJ3.out; have := HK2.out; omega⟩, ⟨by repeat (first | (with_reducible first | exact HB.out | apply below_alloc | apply pw_below_drewN | apply below_drew1) | exact HB.out)⟩⟩
                · rw [if_neg c14] at H
                  have c14b0 : ((bt a0 x8_2) == 38) = false := beq_eq_false_iff_ne.mpr c14
                  have c14b1 : ((bt a0 x8_2) != 38) = true := bne_iff_ne.mpr c14
                  have c15b0 := eq_true (of_decide_eq_true (by first | (with_reducible assumption) | assumption) : 0 ≤ x8_2)
                  by_cases c16 : x8_2 ≤ (wrap64 (x8_2 + 1))
                  · rw [if_pos c16] at H
                    have c16b0 := eq_true c16
                    have c16b1 : decide (x8_2 ≤ (wrap64 (x8_2 + 1))) = true := decide_eq_true c16
                    by_cases c17 : (wrap64 (x8_2 + 1)) ≤ (a0.size : Int)
                    · rw [if_pos c17] at H
                      have c17b0 := eq_true c17
                      have c17b1 : decide ((wrap64 (x8_2 + 1)) ≤ (a0.size : Int)) = true := decide_eq_true c17
                      by_cases c18 : x7_2.size + (((wrap64 (x8_2 + 1)) : Int).toNat - (x8_2 : Int).toNat) ≤ 9223372036854775807
                      · rw [if_pos c18] at H
                        have c18b0 := eq_true c18
                        have c18b1 : decide (x7_2.size + (((wrap64 (x8_2 + 1)) : Int).toNat - (x8_2 : Int).toNat) ≤ 9223372036854775807) = true := decide_eq_true c18
                        try have c18b2 : (9223372036854775807 < x7_2.size + (((wrap64 (x8_2 + 1)) : Int).toNat - (x8_2 : Int).toNat)) = False := eq_false (Nat.not_lt.2 c18)
                        have H' := Aside0.mk H
                        clear H
                        have p13 : 0 ≤ (x8_2 : Int) := of_decide_eq_true (by first | (with_reducible assumption) | assumption)
                        have q13 : x8_2 < (a0.size : Int) := of_decide_eq_true (by first | (with_reducible assumption) | assumption)
                        have hx13 := bt_at a0 x8_2
                        replace p13 := eq_true p13
                        replace q13 := eq_true q13
                        go_wp2
                        go_roundg k2
                        case measure => have := HJ3.out; have := HK2.out; omega
                        case rel => exact ⟨(x7_2 ++ (a0.extract (x8_2 : Int).toNat ((wrap64 (x8_2 + 1)) : Int).toNat)), (wrap64 (x8_2 + 1)), (by first | with_reducible rfl | (simp; done) | rfl | (simp [*]; done)), (by first | with_reducible rfl | (simp; done) | rfl | (simp [*]; done)), H', ⟨by have := HJ3.out; have := HK2.out; omega⟩, ⟨by repeat (first | (with_reducible first | exact HB.out | apply below_alloc | apply pw_below_drewN | apply below_drew1) | exact HB.out)⟩⟩
                      · rw [if_neg c18] at H
                        exact absurd H (by simp)
                    · rw [if_neg c17] at H
                      exact absurd H (by simp)
                  · rw [if_neg c16] at H
                    exact absurd H (by simp)
              · rw [if_neg c12] at H
                exact absurd H (by simp)
            · rw [if_neg c11] at H
              have c11b0 : decide (x8_2 < (a0.size : Int)) = false := decide_eq_false c11
              clear c11
              replace H := Option.bind_eq_some_iff.mp H
              obtain ⟨⟨t195, t196, t197⟩, A190, H⟩ := H
              replace H : ((charref_Take.f a0 (wrap64 ((a0.size : Int) + ((mx a1 0) % 1000))) a2).bind fun bt198 => (if 2 + x7_2.size ≤ 9223372036854775807 then ((charref_Take.f ((⟨#[38, 32]⟩ : ByteArray) ++ x7_2) 0 a2).bind fun bt201 => (if t196 = 0 then (if t197 = 0 then (if bt198.2.1 = 0 then (if bt198.2.2 = 0 then (if bt201.2.1 = 0 then (if bt201.2.2 = 0 then ((charref_All.f x7_2 a2).bind fun t204 => (some (t204.toList == x7_2.toList))) else (some false)) else (some false)) else (some false)) else (some false)) else (some false)) else (some false))) else (none))) = some r := H
              have A19 := Aside0.mk A190
              clear A190
              obtain ⟨ji20, hji20⟩ : ∃ j_ : Int, (mx a1 0) = j_ := ⟨_, rfl⟩
              replace H : ((charref_Take.f a0 (wrap64 ((a0.size : Int) + ((ji20) % 1000))) a2).bind fun bt198 => (if 2 + x7_2.size ≤ 9223372036854775807 then ((charref_Take.f ((⟨#[38, 32]⟩ : ByteArray) ++ x7_2) 0 a2).bind fun bt201 => (if t196 = 0 then (if t197 = 0 then (if bt198.2.1 = 0 then (if bt198.2.2 = 0 then (if bt201.2.1 = 0 then (if bt201.2.2 = 0 then ((charref_All.f x7_2 a2).bind fun t204 => (some (t204.toList == x7_2.toList))) else (some false)) else (some false)) else (some false)) else (some false)) else (some false)) else (some false))) else (none))) = some r := by first | (rw [hji20] at H; exact H) | (simp only [hji20] at H ⊢; exact H)
              (try rw [hji20] at A19)
              have hji20_ : (if a1 < 0 then 0 else a1) = ji20 := hji20
              replace H := Option.bind_eq_some_iff.mp H
              obtain ⟨⟨t198, t199, t200⟩, A210, H⟩ := H
              replace H : (if 2 + x7_2.size ≤ 9223372036854775807 then ((charref_Take.f ((⟨#[38, 32]⟩ : ByteArray) ++ x7_2) 0 a2).bind fun bt201 => (if t196 = 0 then (if t197 = 0 then (if t199 = 0 then (if t200 = 0 then (if bt201.2.1 = 0 then (if bt201.2.2 = 0 then ((charref_All.f x7_2 a2).bind fun t204 => (some (t204.toList == x7_2.toList))) else (some false)) else (some false)) else (some false)) else (some false)) else (some false)) else (some false))) else (none)) = some r := H
              have A21 := Aside0.mk A210
              clear A210
              by_cases c22 : 2 + x7_2.size ≤ 9223372036854775807
              · rw [if_pos c22] at H
                have c22b0 := eq_true c22
                have c22b1 : decide (2 + x7_2.size ≤ 9223372036854775807) = true := decide_eq_true c22
                try have c22b2 : (9223372036854775807 < 2 + x7_2.size) = False := eq_false (Nat.not_lt.2 c22)
                replace H := Option.bind_eq_some_iff.mp H
                obtain ⟨⟨t201, t202, t203⟩, A230, H⟩ := H
                replace H : (if t196 = 0 then (if t197 = 0 then (if t199 = 0 then (if t200 = 0 then (if t202 = 0 then (if t203 = 0 then ((charref_All.f x7_2 a2).bind fun t204 => (some (t204.toList == x7_2.toList))) else (some false)) else (some false)) else (some false)) else (some false)) else (some false)) else (some false)) = some r := H
                have A23 := Aside0.mk A230
                clear A230
                by_cases c24 : t196 = 0
                · rw [if_pos c24] at H
                  have c24b0 : (t196 == 0) = true := beq_iff_eq.mpr c24
                  have c24b1 : (t196 != 0) = false := bne_eq_false_iff_eq.mpr c24
                  clear c24
                  by_cases c25 : t197 = 0
                  · rw [if_pos c25] at H
                    have c25b0 : (t197 == 0) = true := beq_iff_eq.mpr c25
                    have c25b1 : (t197 != 0) = false := bne_eq_false_iff_eq.mpr c25
                    clear c25
                    by_cases c26 : t199 = 0
                    · rw [if_pos c26] at H
                      have c26b0 : (t199 == 0) = true := beq_iff_eq.mpr c26
                      have c26b1 : (t199 != 0) = false := bne_eq_false_iff_eq.mpr c26
                      clear c26
                      by_cases c27 : t200 = 0
                      · rw [if_pos c27] at H
                        have c27b0 : (t200 == 0) = true := beq_iff_eq.mpr c27
                        have c27b1 : (t200 != 0) = false := bne_eq_false_iff_eq.mpr c27
                        clear c27
                        by_cases c28 : t202 = 0
                        · rw [if_pos c28] at H
                          have c28b0 : (t202 == 0) = true := beq_iff_eq.mpr c28
                          have c28b1 : (t202 != 0) = false := bne_eq_false_iff_eq.mpr c28
                          clear c28
                          by_cases c29 : t203 = 0
                          · rw [if_pos c29] at H
                            have c29b0 : (t203 == 0) = true := beq_iff_eq.mpr c29
                            have c29b1 : (t203 != 0) = false := bne_eq_false_iff_eq.mpr c29
                            clear c29
                            replace H := Option.bind_eq_some_iff.mp H
                            obtain ⟨t204, A300, H⟩ := H
                            replace H : (some (t204.toList == x7_2.toList)) = some r := H
                            have A30 := Aside0.mk A300
                            clear A300
                            obtain rfl := Option.some.inj H
                            go_wp2_with (first | ((with_reducible refine gate_callee (f := 13) rfl ?_); refine goesL_ (some 47) rfl rfl Try.func13 (by kernel_rfl) rfl #[.string x7_2, .int .i64 a1, .bool a2] rfl (by (try simp only [List.map_toArray, List.map_cons, List.map_nil]); first | done | rfl | (simp only [List.length_drop, List.length_take]; rfl)) ?_; (with_reducible refine (charref_Take.calls x7_2 a1 a2 t195 t196 t197 _ A19.out).mono ?_); rintro e w31 ⟨rfl, hb⟩; refine ⟨_, rfl, ?_⟩; have n0_ := Aside0.mk (below_step (by repeat (first | (with_reducible first | exact HB.out | apply below_alloc | apply pw_below_drewN | apply below_drew1) | exact HB.out)) hb); clear HB; have HB := n0_; clear n0_; (try clear hb); (try clear hb2); (try clear hk); (try clear hi)) | ((with_reducible refine gate_callee (f := 13) rfl ?_); refine goesL_ (some 60) rfl rfl Try.func13 (by kernel_rfl) rfl #[.string a0, .int .i64 (wrap64 ((a0.size : Int) + ((ji20) % 1000))), .bool a2] rfl (by (try simp only [List.map_toArray, List.map_cons, List.map_nil]); first | done | (simp only [hji20]; rfl) | rfl | (simp only [List.length_drop, List.length_take]; rfl)) ?_; (with_reducible refine (charref_Take.calls a0 (wrap64 ((a0.size : Int) + ((ji20) % 1000))) a2 t198 t199 t200 _ A21.out).mono ?_); rintro e w32 ⟨rfl, hb⟩; refine ⟨_, rfl, ?_⟩; have n0_ := Aside0.mk (below_step (by repeat (first | (with_reducible first | exact HB.out | apply below_alloc | apply pw_below_drewN | apply below_drew1) | exact HB.out)) hb); clear HB; have HB := n0_; clear n0_; (try clear hb); (try clear hb2); (try clear hk); (try clear hi)) | ((with_reducible refine gate_callee (f := 13) rfl ?_); refine goesL_ (some 68) rfl rfl Try.func13 (by kernel_rfl) rfl #[.string ((⟨#[38, 32]⟩ : ByteArray) ++ x7_2), .int .i64 0, .bool a2] rfl (by (try simp only [List.map_toArray, List.map_cons, List.map_nil]); first | done | rfl | (simp only [List.length_drop, List.length_take]; rfl)) ?_; (with_reducible refine (charref_Take.calls ((⟨#[38, 32]⟩ : ByteArray) ++ x7_2) 0 a2 t201 t202 t203 _ A23.out).mono ?_); rintro e w33 ⟨rfl, hb⟩; refine ⟨_, rfl, ?_⟩; have n0_ := Aside0.mk (below_step (by repeat (first | (with_reducible first | exact HB.out | apply below_alloc | apply pw_below_drewN | apply below_drew1) | exact HB.out)) hb); clear HB; have HB := n0_; clear n0_; (try clear hb); (try clear hb2); (try clear hk); (try clear hi)) | (go_at_call 11; (with_reducible refine (charref_All.calls x7_2 a2 t204 _ A30.out).mono ?_); rintro e w34 ⟨rfl, hb⟩; have n0_ := Aside0.mk (below_step (by repeat (first | (with_reducible first | exact HB.out | apply below_alloc | apply pw_below_drewN | apply below_drew1) | exact HB.out)) hb); clear HB; have HB := n0_; clear n0_; (try clear hb); (try clear hb2); (try clear hk); (try clear hi)))
                            go_ret
                            exact ⟨by first | rfl | (simp [errW_none, errW_some] <;> rfl) | (simp only [← hji20]; first | rfl | (simp [errW_none, errW_some] <;> rfl)) | (simp [*, errW_none, errW_some] <;> rfl), by repeat (first | (with_reducible first | exact HB.out | apply below_alloc | apply pw_below_drewN | apply below_drew1) | exact HB.out)⟩
                          · rw [if_neg c29] at H
                            have c29b0 : (t203 == 0) = false := beq_eq_false_iff_ne.mpr c29
                            have c29b1 : (t203 != 0) = true := bne_iff_ne.mpr c29
                            obtain rfl := Option.some.inj H
                            go_wp2_with (first | ((with_reducible refine gate_callee (f := 13) rfl ?_); refine goesL_ (some 47) rfl rfl Try.func13 (by kernel_rfl) rfl #[.string x7_2, .int .i64 a1, .bool a2] rfl (by (try simp only [List.map_toArray, List.map_cons, List.map_nil]); first | done | rfl | (simp only [List.length_drop, List.length_take]; rfl)) ?_; (with_reducible refine (charref_Take.calls x7_2 a1 a2 t195 t196 t197 _ A19.out).mono ?_); rintro e w35 ⟨rfl, hb⟩; refine ⟨_, rfl, ?_⟩; have n0_ := Aside0.mk (below_step (by repeat (first | (with_reducible first | exact HB.out | apply below_alloc | apply pw_below_drewN | apply below_drew1) | exact HB.out)) hb); clear HB; have HB := n0_; clear n0_; (try clear hb); (try clear hb2); (try clear hk); (try clear hi)) | ((with_reducible refine gate_callee (f := 13) rfl ?_); refine goesL_ (some 60) rfl rfl Try.func13 (by kernel_rfl) rfl #[.string a0, .int .i64 (wrap64 ((a0.size : Int) + ((ji20) % 1000))), .bool a2] rfl (by (try simp only [List.map_toArray, List.map_cons, List.map_nil]); first | done | (simp only [hji20]; rfl) | rfl | (simp only [List.length_drop, List.length_take]; rfl)) ?_; (with_reducible refine (charref_Take.calls a0 (wrap64 ((a0.size : Int) + ((ji20) % 1000))) a2 t198 t199 t200 _ A21.out).mono ?_); rintro e w36 ⟨rfl, hb⟩; refine ⟨_, rfl, ?_⟩; have n0_ := Aside0.mk (below_step (by repeat (first | (with_reducible first | exact HB.out | apply below_alloc | apply pw_below_drewN | apply below_drew1) | exact HB.out)) hb); clear HB; have HB := n0_; clear n0_; (try clear hb); (try clear hb2); (try clear hk); (try clear hi)) | ((with_reducible refine gate_callee (f := 13) rfl ?_); refine goesL_ (some 68) rfl rfl Try.func13 (by kernel_rfl) rfl #[.string ((⟨#[38, 32]⟩ : ByteArray) ++ x7_2), .int .i64 0, .bool a2] rfl (by (try simp only [List.map_toArray, List.map_cons, List.map_nil]); first | done | rfl | (simp only [List.length_drop, List.length_take]; rfl)) ?_; (with_reducible refine (charref_Take.calls ((⟨#[38, 32]⟩ : ByteArray) ++ x7_2) 0 a2 t201 t202 t203 _ A23.out).mono ?_); rintro e w37 ⟨rfl, hb⟩; refine ⟨_, rfl, ?_⟩; have n0_ := Aside0.mk (below_step (by repeat (first | (with_reducible first | exact HB.out | apply below_alloc | apply pw_below_drewN | apply below_drew1) | exact HB.out)) hb); clear HB; have HB := n0_; clear n0_; (try clear hb); (try clear hb2); (try clear hk); (try clear hi)))
                            go_ret
                            exact ⟨by first | rfl | (simp [errW_none, errW_some] <;> rfl) | (simp only [← hji20]; first | rfl | (simp [errW_none, errW_some] <;> rfl)) | (simp [*, errW_none, errW_some] <;> rfl), by repeat (first | (with_reducible first | exact HB.out | apply below_alloc | apply pw_below_drewN | apply below_drew1) | exact HB.out)⟩
                        · rw [if_neg c28] at H
                          have c28b0 : (t202 == 0) = false := beq_eq_false_iff_ne.mpr c28
                          have c28b1 : (t202 != 0) = true := bne_iff_ne.mpr c28
                          obtain rfl := Option.some.inj H
                          go_wp2_with (first | ((with_reducible refine gate_callee (f := 13) rfl ?_); refine goesL_ (some 47) rfl rfl Try.func13 (by kernel_rfl) rfl #[.string x7_2, .int .i64 a1, .bool a2] rfl (by (try simp only [List.map_toArray, List.map_cons, List.map_nil]); first | done | rfl | (simp only [List.length_drop, List.length_take]; rfl)) ?_; (with_reducible refine (charref_Take.calls x7_2 a1 a2 t195 t196 t197 _ A19.out).mono ?_); rintro e w38 ⟨rfl, hb⟩; refine ⟨_, rfl, ?_⟩; have n0_ := Aside0.mk (below_step (by repeat (first | (with_reducible first | exact HB.out | apply below_alloc | apply pw_below_drewN | apply below_drew1) | exact HB.out)) hb); clear HB; have HB := n0_; clear n0_; (try clear hb); (try clear hb2); (try clear hk); (try clear hi)) | ((with_reducible refine gate_callee (f := 13) rfl ?_); refine goesL_ (some 60) rfl rfl Try.func13 (by kernel_rfl) rfl #[.string a0, .int .i64 (wrap64 ((a0.size : Int) + ((ji20) % 1000))), .bool a2] rfl (by (try simp only [List.map_toArray, List.map_cons, List.map_nil]); first | done | (simp only [hji20]; rfl) | rfl | (simp only [List.length_drop, List.length_take]; rfl)) ?_; (with_reducible refine (charref_Take.calls a0 (wrap64 ((a0.size : Int) + ((ji20) % 1000))) a2 t198 t199 t200 _ A21.out).mono ?_); rintro e w39 ⟨rfl, hb⟩; refine ⟨_, rfl, ?_⟩; have n0_ := Aside0.mk (below_step (by repeat (first | (with_reducible first | exact HB.out | apply below_alloc | apply pw_below_drewN | apply below_drew1) | exact HB.out)) hb); clear HB; have HB := n0_; clear n0_; (try clear hb); (try clear hb2); (try clear hk); (try clear hi)) | ((with_reducible refine gate_callee (f := 13) rfl ?_); refine goesL_ (some 68) rfl rfl Try.func13 (by kernel_rfl) rfl #[.string ((⟨#[38, 32]⟩ : ByteArray) ++ x7_2), .int .i64 0, .bool a2] rfl (by (try simp only [List.map_toArray, List.map_cons, List.map_nil]); first | done | rfl | (simp only [List.length_drop, List.length_take]; rfl)) ?_; (with_reducible refine (charref_Take.calls ((⟨#[38, 32]⟩ : ByteArray) ++ x7_2) 0 a2 t201 t202 t203 _ A23.out).mono ?_); rintro e w40 ⟨rfl, hb⟩; refine ⟨_, rfl, ?_⟩; have n0_ := Aside0.mk (below_step (by repeat (first | (with_reducible first | exact HB.out | apply below_alloc | apply pw_below_drewN | apply below_drew1) | exact HB.out)) hb); clear HB; have HB := n0_; clear n0_; (try clear hb); (try clear hb2); (try clear hk); (try clear hi)))
                          go_ret
                          exact ⟨by first | rfl | (simp [errW_none, errW_some] <;> rfl) | (simp only [← hji20]; first | rfl | (simp [errW_none, errW_some] <;> rfl)) | (simp [*, errW_none, errW_some] <;> rfl), by repeat (first | (with_reducible first | exact HB.out | apply below_alloc | apply pw_below_drewN | apply below_drew1) | exact HB.out)⟩
                      · rw [if_neg c27] at H
                        have c27b0 : (t200 == 0) = false := beq_eq_false_iff_ne.mpr c27
                        have c27b1 : (t200 != 0) = true := bne_iff_ne.mpr c27
                        obtain rfl := Option.some.inj H
                        go_wp2_with (first | ((with_reducible refine gate_callee (f := 13) rfl ?_); refine goesL_ (some 47) rfl rfl Try.func13 (by kernel_rfl) rfl #[.string x7_2, .int .i64 a1, .bool a2] rfl (by (try simp only [List.map_toArray, List.map_cons, List.map_nil]); first | done | rfl | (simp only [List.length_drop, List.length_take]; rfl)) ?_; (with_reducible refine (charref_Take.calls x7_2 a1 a2 t195 t196 t197 _ A19.out).mono ?_); rintro e w41 ⟨rfl, hb⟩; refine ⟨_, rfl, ?_⟩; have n0_ := Aside0.mk (below_step (by repeat (first | (with_reducible first | exact HB.out | apply below_alloc | apply pw_below_drewN | apply below_drew1) | exact HB.out)) hb); clear HB; have HB := n0_; clear n0_; (try clear hb); (try clear hb2); (try clear hk); (try clear hi)) | ((with_reducible refine gate_callee (f := 13) rfl ?_); refine goesL_ (some 60) rfl rfl Try.func13 (by kernel_rfl) rfl #[.string a0, .int .i64 (wrap64 ((a0.size : Int) + ((ji20) % 1000))), .bool a2] rfl (by (try simp only [List.map_toArray, List.map_cons, List.map_nil]); first | done | (simp only [hji20]; rfl) | rfl | (simp only [List.length_drop, List.length_take]; rfl)) ?_; (with_reducible refine (charref_Take.calls a0 (wrap64 ((a0.size : Int) + ((ji20) % 1000))) a2 t198 t199 t200 _ A21.out).mono ?_); rintro e w42 ⟨rfl, hb⟩; refine ⟨_, rfl, ?_⟩; have n0_ := Aside0.mk (below_step (by repeat (first | (with_reducible first | exact HB.out | apply below_alloc | apply pw_below_drewN | apply below_drew1) | exact HB.out)) hb); clear HB; have HB := n0_; clear n0_; (try clear hb); (try clear hb2); (try clear hk); (try clear hi)) | ((with_reducible refine gate_callee (f := 13) rfl ?_); refine goesL_ (some 68) rfl rfl Try.func13 (by kernel_rfl) rfl #[.string ((⟨#[38, 32]⟩ : ByteArray) ++ x7_2), .int .i64 0, .bool a2] rfl (by (try simp only [List.map_toArray, List.map_cons, List.map_nil]); first | done | rfl | (simp only [List.length_drop, List.length_take]; rfl)) ?_; (with_reducible refine (charref_Take.calls ((⟨#[38, 32]⟩ : ByteArray) ++ x7_2) 0 a2 t201 t202 t203 _ A23.out).mono ?_); rintro e w43 ⟨rfl, hb⟩; refine ⟨_, rfl, ?_⟩; have n0_ := Aside0.mk (below_step (by repeat (first | (with_reducible first | exact HB.out | apply below_alloc | apply pw_below_drewN | apply below_drew1) | exact HB.out)) hb); clear HB; have HB := n0_; clear n0_; (try clear hb); (try clear hb2); (try clear hk); (try clear hi)))
                        go_ret
                        exact ⟨by first | rfl | (simp [errW_none, errW_some] <;> rfl) | (simp only [← hji20]; first | rfl | (simp [errW_none, errW_some] <;> rfl)) | (simp [*, errW_none, errW_some] <;> rfl), by repeat (first | (with_reducible first | exact HB.out | apply below_alloc | apply pw_below_drewN | apply below_drew1) | exact HB.out)⟩
                    · rw [if_neg c26] at H
                      have c26b0 : (t199 == 0) = false := beq_eq_false_iff_ne.mpr c26
                      have c26b1 : (t199 != 0) = true := bne_iff_ne.mpr c26
                      obtain rfl := Option.some.inj H
                      go_wp2_with (first | ((with_reducible refine gate_callee (f := 13) rfl ?_); refine goesL_ (some 47) rfl rfl Try.func13 (by kernel_rfl) rfl #[.string x7_2, .int .i64 a1, .bool a2] rfl (by (try simp only [List.map_toArray, List.map_cons, List.map_nil]); first | done | rfl | (simp only [List.length_drop, List.length_take]; rfl)) ?_; (with_reducible refine (charref_Take.calls x7_2 a1 a2 t195 t196 t197 _ A19.out).mono ?_); rintro e w44 ⟨rfl, hb⟩; refine ⟨_, rfl, ?_⟩; have n0_ := Aside0.mk (below_step (by repeat (first | (with_reducible first | exact HB.out | apply below_alloc | apply pw_below_drewN | apply below_drew1) | exact HB.out)) hb); clear HB; have HB := n0_; clear n0_; (try clear hb); (try clear hb2); (try clear hk); (try clear hi)) | ((with_reducible refine gate_callee (f := 13) rfl ?_); refine goesL_ (some 60) rfl rfl Try.func13 (by kernel_rfl) rfl #[.string a0, .int .i64 (wrap64 ((a0.size : Int) + ((ji20) % 1000))), .bool a2] rfl (by (try simp only [List.map_toArray, List.map_cons, List.map_nil]); first | done | (simp only [hji20]; rfl) | rfl | (simp only [List.length_drop, List.length_take]; rfl)) ?_; (with_reducible refine (charref_Take.calls a0 (wrap64 ((a0.size : Int) + ((ji20) % 1000))) a2 t198 t199 t200 _ A21.out).mono ?_); rintro e w45 ⟨rfl, hb⟩; refine ⟨_, rfl, ?_⟩; have n0_ := Aside0.mk (below_step (by repeat (first | (with_reducible first | exact HB.out | apply below_alloc | apply pw_below_drewN | apply below_drew1) | exact HB.out)) hb); clear HB; have HB := n0_; clear n0_; (try clear hb); (try clear hb2); (try clear hk); (try clear hi)) | ((with_reducible refine gate_callee (f := 13) rfl ?_); refine goesL_ (some 68) rfl rfl Try.func13 (by kernel_rfl) rfl #[.string ((⟨#[38, 32]⟩ : ByteArray) ++ x7_2), .int .i64 0, .bool a2] rfl (by (try simp only [List.map_toArray, List.map_cons, List.map_nil]); first | done | rfl | (simp only [List.length_drop, List.length_take]; rfl)) ?_; (with_reducible refine (charref_Take.calls ((⟨#[38, 32]⟩ : ByteArray) ++ x7_2) 0 a2 t201 t202 t203 _ A23.out).mono ?_); rintro e w46 ⟨rfl, hb⟩; refine ⟨_, rfl, ?_⟩; have n0_ := Aside0.mk (below_step (by repeat (first | (with_reducible first | exact HB.out | apply below_alloc | apply pw_below_drewN | apply below_drew1) | exact HB.out)) hb); clear HB; have HB := n0_; clear n0_; (try clear hb); (try clear hb2); (try clear hk); (try clear hi)))
                      go_ret
                      exact ⟨by first | rfl | (simp [errW_none, errW_some] <;> rfl) | (simp only [← hji20]; first | rfl | (simp [errW_none, errW_some] <;> rfl)) | (simp [*, errW_none, errW_some] <;> rfl), by repeat (first | (with_reducible first | exact HB.out | apply below_alloc | apply pw_below_drewN | apply below_drew1) | exact HB.out)⟩
                  · rw [if_neg c25] at H
                    have c25b0 : (t197 == 0) = false := beq_eq_false_iff_ne.mpr c25
                    have c25b1 : (t197 != 0) = true := bne_iff_ne.mpr c25
                    obtain rfl := Option.some.inj H
                    go_wp2_with (first | ((with_reducible refine gate_callee (f := 13) rfl ?_); refine goesL_ (some 47) rfl rfl Try.func13 (by kernel_rfl) rfl #[.string x7_2, .int .i64 a1, .bool a2] rfl (by (try simp only [List.map_toArray, List.map_cons, List.map_nil]); first | done | rfl | (simp only [List.length_drop, List.length_take]; rfl)) ?_; (with_reducible refine (charref_Take.calls x7_2 a1 a2 t195 t196 t197 _ A19.out).mono ?_); rintro e w47 ⟨rfl, hb⟩; refine ⟨_, rfl, ?_⟩; have n0_ := Aside0.mk (below_step (by repeat (first | (with_reducible first | exact HB.out | apply below_alloc | apply pw_below_drewN | apply below_drew1) | exact HB.out)) hb); clear HB; have HB := n0_; clear n0_; (try clear hb); (try clear hb2); (try clear hk); (try clear hi)) | ((with_reducible refine gate_callee (f := 13) rfl ?_); refine goesL_ (some 60) rfl rfl Try.func13 (by kernel_rfl) rfl #[.string a0, .int .i64 (wrap64 ((a0.size : Int) + ((ji20) % 1000))), .bool a2] rfl (by (try simp only [List.map_toArray, List.map_cons, List.map_nil]); first | done | (simp only [hji20]; rfl) | rfl | (simp only [List.length_drop, List.length_take]; rfl)) ?_; (with_reducible refine (charref_Take.calls a0 (wrap64 ((a0.size : Int) + ((ji20) % 1000))) a2 t198 t199 t200 _ A21.out).mono ?_); rintro e w48 ⟨rfl, hb⟩; refine ⟨_, rfl, ?_⟩; have n0_ := Aside0.mk (below_step (by repeat (first | (with_reducible first | exact HB.out | apply below_alloc | apply pw_below_drewN | apply below_drew1) | exact HB.out)) hb); clear HB; have HB := n0_; clear n0_; (try clear hb); (try clear hb2); (try clear hk); (try clear hi)) | ((with_reducible refine gate_callee (f := 13) rfl ?_); refine goesL_ (some 68) rfl rfl Try.func13 (by kernel_rfl) rfl #[.string ((⟨#[38, 32]⟩ : ByteArray) ++ x7_2), .int .i64 0, .bool a2] rfl (by (try simp only [List.map_toArray, List.map_cons, List.map_nil]); first | done | rfl | (simp only [List.length_drop, List.length_take]; rfl)) ?_; (with_reducible refine (charref_Take.calls ((⟨#[38, 32]⟩ : ByteArray) ++ x7_2) 0 a2 t201 t202 t203 _ A23.out).mono ?_); rintro e w49 ⟨rfl, hb⟩; refine ⟨_, rfl, ?_⟩; have n0_ := Aside0.mk (below_step (by repeat (first | (with_reducible first | exact HB.out | apply below_alloc | apply pw_below_drewN | apply below_drew1) | exact HB.out)) hb); clear HB; have HB := n0_; clear n0_; (try clear hb); (try clear hb2); (try clear hk); (try clear hi)))
                    go_ret
                    exact ⟨by first | rfl | (simp [errW_none, errW_some] <;> rfl) | (simp only [← hji20]; first | rfl | (simp [errW_none, errW_some] <;> rfl)) | (simp [*, errW_none, errW_some] <;> rfl), by repeat (first | (with_reducible first | exact HB.out | apply below_alloc | apply pw_below_drewN | apply below_drew1) | exact HB.out)⟩
                · rw [if_neg c24] at H
                  have c24b0 : (t196 == 0) = false := beq_eq_false_iff_ne.mpr c24
                  have c24b1 : (t196 != 0) = true := bne_iff_ne.mpr c24
                  obtain rfl := Option.some.inj H
                  go_wp2_with (first | ((with_reducible refine gate_callee (f := 13) rfl ?_); refine goesL_ (some 47) rfl rfl Try.func13 (by kernel_rfl) rfl #[.string x7_2, .int .i64 a1, .bool a2] rfl (by (try simp only [List.map_toArray, List.map_cons, List.map_nil]); first | done | rfl | (simp only [List.length_drop, List.length_take]; rfl)) ?_; (with_reducible refine (charref_Take.calls x7_2 a1 a2 t195 t196 t197 _ A19.out).mono ?_); rintro e w50 ⟨rfl, hb⟩; refine ⟨_, rfl, ?_⟩; have n0_ := Aside0.mk (below_step (by repeat (first | (with_reducible first | exact HB.out | apply below_alloc | apply pw_below_drewN | apply below_drew1) | exact HB.out)) hb); clear HB; have HB := n0_; clear n0_; (try clear hb); (try clear hb2); (try clear hk); (try clear hi)) | ((with_reducible refine gate_callee (f := 13) rfl ?_); refine goesL_ (some 60) rfl rfl Try.func13 (by kernel_rfl) rfl #[.string a0, .int .i64 (wrap64 ((a0.size : Int) + ((ji20) % 1000))), .bool a2] rfl (by (try simp only [List.map_toArray, List.map_cons, List.map_nil]); first | done | (simp only [hji20]; rfl) | rfl | (simp only [List.length_drop, List.length_take]; rfl)) ?_; (with_reducible refine (charref_Take.calls a0 (wrap64 ((a0.size : Int) + ((ji20) % 1000))) a2 t198 t199 t200 _ A21.out).mono ?_); rintro e w51 ⟨rfl, hb⟩; refine ⟨_, rfl, ?_⟩; have n0_ := Aside0.mk (below_step (by repeat (first | (with_reducible first | exact HB.out | apply below_alloc | apply pw_below_drewN | apply below_drew1) | exact HB.out)) hb); clear HB; have HB := n0_; clear n0_; (try clear hb); (try clear hb2); (try clear hk); (try clear hi)) | ((with_reducible refine gate_callee (f := 13) rfl ?_); refine goesL_ (some 68) rfl rfl Try.func13 (by kernel_rfl) rfl #[.string ((⟨#[38, 32]⟩ : ByteArray) ++ x7_2), .int .i64 0, .bool a2] rfl (by (try simp only [List.map_toArray, List.map_cons, List.map_nil]); first | done | rfl | (simp only [List.length_drop, List.length_take]; rfl)) ?_; (with_reducible refine (charref_Take.calls ((⟨#[38, 32]⟩ : ByteArray) ++ x7_2) 0 a2 t201 t202 t203 _ A23.out).mono ?_); rintro e w52 ⟨rfl, hb⟩; refine ⟨_, rfl, ?_⟩; have n0_ := Aside0.mk (below_step (by repeat (first | (with_reducible first | exact HB.out | apply below_alloc | apply pw_below_drewN | apply below_drew1) | exact HB.out)) hb); clear HB; have HB := n0_; clear n0_; (try clear hb); (try clear hb2); (try clear hk); (try clear hi)))
                  go_ret
                  exact ⟨by first | rfl | (simp [errW_none, errW_some] <;> rfl) | (simp only [← hji20]; first | rfl | (simp [errW_none, errW_some] <;> rfl)) | (simp [*, errW_none, errW_some] <;> rfl), by repeat (first | (with_reducible first | exact HB.out | apply below_alloc | apply pw_below_drewN | apply below_drew1) | exact HB.out)⟩
              · rw [if_neg c22] at H
                exact absurd H (by simp)

/-- THE ONE PURE STATEMENT of portierelaw04_CharrefNone: yours. -/
def portierelaw04_CharrefNone.Pure : Prop := ∀ (a0 : ByteArray) (a1 : Int) (a2 : Bool), a0.size ≤ 140737488351232 → (Lit.int .i64 a1).wf = true → ∃ k, portierelaw04_CharrefNone.f k a0 a1 a2 = some true
theorem portierelaw04_CharrefNone.walk (P : portierelaw04_CharrefNone.Pure) (a0 : ByteArray) (a1 : Int) (a2 : Bool) (w : World) (w0 : a0.size ≤ 140737488351232) (w1 : (Lit.int .i64 a1).wf = true) :
    Calls Try.prog 8 #[.string a0, .int .i64 a1, .bool a2] w fun e w' => e = .returned (.bool true) ∧ Below w.heap.size w w' := by
  obtain ⟨k, h⟩ := P a0 a1 a2 w0 w1
  refine (portierelaw04_CharrefNone.calls k a0 a1 a2 true w h).mono ?_
  rintro e w' ⟨rfl, hd⟩
  exact ⟨rfl, hd⟩

/-! ### portierelaw04_CharrefEnds: function 9 -/
def portierelaw04_CharrefEnds.j0 : Nat → ByteArray → ByteArray → Bool → Option (Bool)
  | 0, _, _, _ => none
  | k + 1, x1, x6, x28 => if x28 = true then ((portierelaw04_known.f).bind fun t210 => (some t210)) else (if 1 + x6.size ≤ 9223372036854775807 then (if 1 + x6.size + 1 ≤ 9223372036854775807 then (if 1 + x6.size + 1 + x1.size ≤ 9223372036854775807 then ((charref_Take.f ((((⟨#[38]⟩ : ByteArray) ++ x6) ++ (⟨#[59]⟩ : ByteArray)) ++ x1) 0 false).bind fun bt211 => ((charref_Take.f ((((⟨#[38]⟩ : ByteArray) ++ x6) ++ (⟨#[59]⟩ : ByteArray)) ++ x1) 0 true).bind fun bt214 => (if bt211.1.toList = bt214.1.toList then (if bt211.2.1 = bt214.2.1 then (if bt211.2.2 = 0 then (if bt214.2.2 = 0 then (if bt211.2.1 = (wrap64 ((x6.size : Int) + 2)) then (some (!bt211.1.toList.isEmpty)) else (some false)) else (some false)) else (some false)) else (some false)) else (some false)))) else (none)) else (none)) else (none))
def portierelaw04_CharrefEnds.f (k : Nat) (a0 : Int) (a1 : ByteArray) : Option (Bool) := (some (([(⟨#[97, 109, 112]⟩ : ByteArray), (⟨#[108, 116]⟩ : ByteArray), (⟨#[103, 116]⟩ : ByteArray), (⟨#[113, 117, 111, 116]⟩ : ByteArray), (⟨#[97, 112, 111, 115]⟩ : ByteArray), (⟨#[110, 98, 115, 112]⟩ : ByteArray), (⟨#[99, 111, 112, 121]⟩ : ByteArray), (⟨#[114, 101, 103]⟩ : ByteArray), (⟨#[104, 101, 108, 108, 105, 112]⟩ : ByteArray), (⟨#[109, 100, 97, 115, 104]⟩ : ByteArray), (⟨#[110, 100, 97, 115, 104]⟩ : ByteArray), (⟨#[108, 115, 113, 117, 111]⟩ : ByteArray), (⟨#[114, 115, 113, 117, 111]⟩ : ByteArray), (⟨#[108, 100, 113, 117, 111]⟩ : ByteArray), (⟨#[114, 100, 113, 117, 111]⟩ : ByteArray), (⟨#[101, 117, 114, 111]⟩ : ByteArray), (⟨#[116, 105, 109, 101, 115]⟩ : ByteArray), (⟨#[100, 105, 118, 105, 100, 101]⟩ : ByteArray), (⟨#[112, 97, 114, 97]⟩ : ByteArray), (⟨#[115, 101, 99, 116]⟩ : ByteArray), (⟨#[110, 111, 116]⟩ : ByteArray), (⟨#[110, 111, 116, 105, 110]⟩ : ByteArray)] : List ByteArray) : List ByteArray)).bind fun y205 => (if (y205.length : Int) = 0 then (none) else (if 0 ≤ (Int.tmod (wrap64 (a0)) (y205.length : Int)) then (if (Int.tmod (wrap64 (a0)) (y205.length : Int)) < (y205.length : Int) then (if (a1.size : Int) > 100 then (portierelaw04_CharrefEnds.j0 k a1 (rdOf ByteArray.empty y205 (Int.tmod (wrap64 (a0)) (y205.length : Int))) true) else ((portierelaw04_known.f).bind fun t209 => (portierelaw04_CharrefEnds.j0 k a1 (rdOf ByteArray.empty y205 (Int.tmod (wrap64 (a0)) (y205.length : Int))) (!t209)))) else (none)) else (none)))
theorem portierelaw04_CharrefEnds.mono_l : ∀ k, (∀ y0 y1 y2, LeO (portierelaw04_CharrefEnds.j0 k y0 y1 y2) (portierelaw04_CharrefEnds.j0 (k + 1) y0 y1 y2))
  | 0 => fun _ _ _ r h => by simp [portierelaw04_CharrefEnds.j0] at h
  | k + 1 => by
    have ih0 := portierelaw04_CharrefEnds.mono_l k
    · intro y0 y1 y2
      unfold portierelaw04_CharrefEnds.j0
      repeat' first
      | (with_reducible exact ih0 _ _ _)
      | (with_reducible exact LeO.refl _)
      | (with_reducible exact LeO.none _)
      | (with_reducible refine LeO.ite ?_ ?_)
      | (with_reducible refine LeO.bind ?_ (fun _ => ?_))
      | exact ih0 _ _ _
      | exact LeO.none _
      | refine LeO.ite ?_ ?_
      | refine LeO.bind ?_ (fun _ => ?_)
theorem portierelaw04_CharrefEnds.mono : ∀ a0 a1 k, LeO (portierelaw04_CharrefEnds.f k a0 a1) (portierelaw04_CharrefEnds.f (k + 1) a0 a1) := by
  intro a0 a1 k
  have ih0 := portierelaw04_CharrefEnds.mono_l k
  unfold portierelaw04_CharrefEnds.f
  repeat' first
      | (with_reducible exact ih0 _ _ _)
      | (with_reducible exact LeO.refl _)
      | (with_reducible exact LeO.none _)
      | (with_reducible refine LeO.ite ?_ ?_)
      | (with_reducible refine LeO.bind ?_ (fun _ => ?_))
      | exact ih0 _ _ _
      | exact LeO.none _
      | refine LeO.ite ?_ ?_
      | refine LeO.bind ?_ (fun _ => ?_)
set_option maxHeartbeats 8000000 in
set_option maxRecDepth 100000 in
theorem portierelaw04_CharrefEnds.calls (k : Nat) (a0 : Int) (a1 : ByteArray) (r : Bool) (w : World) (h : portierelaw04_CharrefEnds.f k a0 a1 = some r) :
    Calls Try.prog 9 #[.int .u8 a0, .string a1] w fun e w' => e = .returned (.bool r) ∧ Below w.heap.size w w' := by
  have HB := Aside0.mk (Below.refl w.heap.size w)
  have H : ((some (([(⟨#[97, 109, 112]⟩ : ByteArray), (⟨#[108, 116]⟩ : ByteArray), (⟨#[103, 116]⟩ : ByteArray), (⟨#[113, 117, 111, 116]⟩ : ByteArray), (⟨#[97, 112, 111, 115]⟩ : ByteArray), (⟨#[110, 98, 115, 112]⟩ : ByteArray), (⟨#[99, 111, 112, 121]⟩ : ByteArray), (⟨#[114, 101, 103]⟩ : ByteArray), (⟨#[104, 101, 108, 108, 105, 112]⟩ : ByteArray), (⟨#[109, 100, 97, 115, 104]⟩ : ByteArray), (⟨#[110, 100, 97, 115, 104]⟩ : ByteArray), (⟨#[108, 115, 113, 117, 111]⟩ : ByteArray), (⟨#[114, 115, 113, 117, 111]⟩ : ByteArray), (⟨#[108, 100, 113, 117, 111]⟩ : ByteArray), (⟨#[114, 100, 113, 117, 111]⟩ : ByteArray), (⟨#[101, 117, 114, 111]⟩ : ByteArray), (⟨#[116, 105, 109, 101, 115]⟩ : ByteArray), (⟨#[100, 105, 118, 105, 100, 101]⟩ : ByteArray), (⟨#[112, 97, 114, 97]⟩ : ByteArray), (⟨#[115, 101, 99, 116]⟩ : ByteArray), (⟨#[110, 111, 116]⟩ : ByteArray), (⟨#[110, 111, 116, 105, 110]⟩ : ByteArray)] : List ByteArray) : List ByteArray)).bind fun y205 => (if (y205.length : Int) = 0 then (none) else (if 0 ≤ (Int.tmod (wrap64 (a0)) (y205.length : Int)) then (if (Int.tmod (wrap64 (a0)) (y205.length : Int)) < (y205.length : Int) then (if (a1.size : Int) > 100 then (portierelaw04_CharrefEnds.j0 k a1 (rdOf ByteArray.empty y205 (Int.tmod (wrap64 (a0)) (y205.length : Int))) true) else ((portierelaw04_known.f).bind fun t209 => (portierelaw04_CharrefEnds.j0 k a1 (rdOf ByteArray.empty y205 (Int.tmod (wrap64 (a0)) (y205.length : Int))) (!t209)))) else (none)) else (none)))) = some r := h
  clear h
  obtain ⟨y205, hy205⟩ : ∃ y_ : List ByteArray, y_ = (([(⟨#[97, 109, 112]⟩ : ByteArray), (⟨#[108, 116]⟩ : ByteArray), (⟨#[103, 116]⟩ : ByteArray), (⟨#[113, 117, 111, 116]⟩ : ByteArray), (⟨#[97, 112, 111, 115]⟩ : ByteArray), (⟨#[110, 98, 115, 112]⟩ : ByteArray), (⟨#[99, 111, 112, 121]⟩ : ByteArray), (⟨#[114, 101, 103]⟩ : ByteArray), (⟨#[104, 101, 108, 108, 105, 112]⟩ : ByteArray), (⟨#[109, 100, 97, 115, 104]⟩ : ByteArray), (⟨#[110, 100, 97, 115, 104]⟩ : ByteArray), (⟨#[108, 115, 113, 117, 111]⟩ : ByteArray), (⟨#[114, 115, 113, 117, 111]⟩ : ByteArray), (⟨#[108, 100, 113, 117, 111]⟩ : ByteArray), (⟨#[114, 100, 113, 117, 111]⟩ : ByteArray), (⟨#[101, 117, 114, 111]⟩ : ByteArray), (⟨#[116, 105, 109, 101, 115]⟩ : ByteArray), (⟨#[100, 105, 118, 105, 100, 101]⟩ : ByteArray), (⟨#[112, 97, 114, 97]⟩ : ByteArray), (⟨#[115, 101, 99, 116]⟩ : ByteArray), (⟨#[110, 111, 116]⟩ : ByteArray), (⟨#[110, 111, 116, 105, 110]⟩ : ByteArray)] : List ByteArray)) := ⟨_, rfl⟩
  replace H : (if (y205.length : Int) = 0 then (none) else (if 0 ≤ (Int.tmod (wrap64 (a0)) (y205.length : Int)) then (if (Int.tmod (wrap64 (a0)) (y205.length : Int)) < (y205.length : Int) then (if (a1.size : Int) > 100 then (portierelaw04_CharrefEnds.j0 k a1 (rdOf ByteArray.empty y205 (Int.tmod (wrap64 (a0)) (y205.length : Int))) true) else ((portierelaw04_known.f).bind fun t209 => (portierelaw04_CharrefEnds.j0 k a1 (rdOf ByteArray.empty y205 (Int.tmod (wrap64 (a0)) (y205.length : Int))) (!t209)))) else (none)) else (none))) = some r := by first | (rw [hy205]; with_reducible exact H) | (have H2_ := (Option.bind_some _ _).symm.trans H; rw [hy205]; with_reducible exact H2_) | (have H2_ := (Option.bind_some _ _).symm.trans H; with_reducible exact H2_) | with_reducible exact H | (rw [hy205]; exact H) | exact H
  have Ny205 := Aside0.mk hy205
  clear hy205
  by_cases c3 : (y205.length : Int) = 0
  · rw [if_pos c3] at H
    exact absurd H (by simp)
  · rw [if_neg c3] at H
    have c3b0 : ((y205.length : Int) == 0) = false := beq_eq_false_iff_ne.mpr c3
    have c3b1 : ((y205.length : Int) != 0) = true := bne_iff_ne.mpr c3
    have c3b2 : ¬ (y205 = []) := fun h_ => c3 (by rw [h_]; rfl)
    obtain ⟨ji4, hji4⟩ : ∃ j_ : Int, (Int.tmod (wrap64 (a0)) (y205.length : Int)) = j_ := ⟨_, rfl⟩
    replace H : (if 0 ≤ (ji4) then (if (ji4) < (y205.length : Int) then (if (a1.size : Int) > 100 then (portierelaw04_CharrefEnds.j0 k a1 (rdOf ByteArray.empty y205 (ji4)) true) else ((portierelaw04_known.f).bind fun t209 => (portierelaw04_CharrefEnds.j0 k a1 (rdOf ByteArray.empty y205 (ji4)) (!t209)))) else (none)) else (none)) = some r := by first | (rw [hji4] at H; exact H) | (simp only [hji4] at H ⊢; exact H)
    by_cases c5 : 0 ≤ (ji4)
    · rw [if_pos c5] at H
      have c5b0 : decide (0 ≤ (ji4)) = true := decide_eq_true c5
      clear c5
      by_cases c6 : (ji4) < (y205.length : Int)
      · rw [if_pos c6] at H
        have c6b0 : decide ((ji4) < (y205.length : Int)) = true := decide_eq_true c6
        clear c6
        have HC7 := Aside0.mk H
        clear H
        go_enter Try.func9, Try.ntmps9
        go_upto_region 3 with (first | ((with_reducible refine gate_dst (N := 13) rfl ?_); (try (refine gate_guard (by rfl) ?_; dsimp only)); refine Kd.R_lit Kd.string _ 9 ?hg (N := 13) ?hd (xs := ([(⟨#[97, 109, 112]⟩ : ByteArray), (⟨#[108, 116]⟩ : ByteArray), (⟨#[103, 116]⟩ : ByteArray), (⟨#[113, 117, 111, 116]⟩ : ByteArray), (⟨#[97, 112, 111, 115]⟩ : ByteArray), (⟨#[110, 98, 115, 112]⟩ : ByteArray), (⟨#[99, 111, 112, 121]⟩ : ByteArray), (⟨#[114, 101, 103]⟩ : ByteArray), (⟨#[104, 101, 108, 108, 105, 112]⟩ : ByteArray), (⟨#[109, 100, 97, 115, 104]⟩ : ByteArray), (⟨#[110, 100, 97, 115, 104]⟩ : ByteArray), (⟨#[108, 115, 113, 117, 111]⟩ : ByteArray), (⟨#[114, 115, 113, 117, 111]⟩ : ByteArray), (⟨#[108, 100, 113, 117, 111]⟩ : ByteArray), (⟨#[114, 100, 113, 117, 111]⟩ : ByteArray), (⟨#[101, 117, 114, 111]⟩ : ByteArray), (⟨#[116, 105, 109, 101, 115]⟩ : ByteArray), (⟨#[100, 105, 118, 105, 100, 101]⟩ : ByteArray), (⟨#[112, 97, 114, 97]⟩ : ByteArray), (⟨#[115, 101, 99, 116]⟩ : ByteArray), (⟨#[110, 111, 116]⟩ : ByteArray), (⟨#[110, 111, 116, 105, 110]⟩ : ByteArray)] : List ByteArray)) (inner := [.string (⟨#[97, 109, 112]⟩ : ByteArray), .string (⟨#[108, 116]⟩ : ByteArray), .string (⟨#[103, 116]⟩ : ByteArray), .string (⟨#[113, 117, 111, 116]⟩ : ByteArray), .string (⟨#[97, 112, 111, 115]⟩ : ByteArray), .string (⟨#[110, 98, 115, 112]⟩ : ByteArray), .string (⟨#[99, 111, 112, 121]⟩ : ByteArray), .string (⟨#[114, 101, 103]⟩ : ByteArray), .string (⟨#[104, 101, 108, 108, 105, 112]⟩ : ByteArray), .string (⟨#[109, 100, 97, 115, 104]⟩ : ByteArray), .string (⟨#[110, 100, 97, 115, 104]⟩ : ByteArray), .string (⟨#[108, 115, 113, 117, 111]⟩ : ByteArray), .string (⟨#[114, 115, 113, 117, 111]⟩ : ByteArray), .string (⟨#[108, 100, 113, 117, 111]⟩ : ByteArray), .string (⟨#[114, 100, 113, 117, 111]⟩ : ByteArray), .string (⟨#[101, 117, 114, 111]⟩ : ByteArray), .string (⟨#[116, 105, 109, 101, 115]⟩ : ByteArray), .string (⟨#[100, 105, 118, 105, 100, 101]⟩ : ByteArray), .string (⟨#[112, 97, 114, 97]⟩ : ByteArray), .string (⟨#[115, 101, 99, 116]⟩ : ByteArray), .string (⟨#[110, 111, 116]⟩ : ByteArray), .string (⟨#[110, 111, 116, 105, 110]⟩ : ByteArray)]) (ok := fun _ => True) (okp := fun _ => True) ?hr ?hp (fun _ hk => hk) trivial (Below.refl _ _) (Nat.le_refl _) (by simp) ?_; (case hd => rfl); (case hg => rfl); (case hr => first | (go_simp; done) | (go_simp; rfl)); (case hp => exact (Reps.one (show Kd.M Kd.string _ _ _ (⟨#[97, 109, 112]⟩ : ByteArray) [.string (⟨#[97, 109, 112]⟩ : ByteArray)] from rfl) (Reps.one (show Kd.M Kd.string _ _ _ (⟨#[108, 116]⟩ : ByteArray) [.string (⟨#[108, 116]⟩ : ByteArray)] from rfl) (Reps.one (show Kd.M Kd.string _ _ _ (⟨#[103, 116]⟩ : ByteArray) [.string (⟨#[103, 116]⟩ : ByteArray)] from rfl) (Reps.one (show Kd.M Kd.string _ _ _ (⟨#[113, 117, 111, 116]⟩ : ByteArray) [.string (⟨#[113, 117, 111, 116]⟩ : ByteArray)] from rfl) (Reps.one (show Kd.M Kd.string _ _ _ (⟨#[97, 112, 111, 115]⟩ : ByteArray) [.string (⟨#[97, 112, 111, 115]⟩ : ByteArray)] from rfl) (Reps.one (show Kd.M Kd.string _ _ _ (⟨#[110, 98, 115, 112]⟩ : ByteArray) [.string (⟨#[110, 98, 115, 112]⟩ : ByteArray)] from rfl) (Reps.one (show Kd.M Kd.string _ _ _ (⟨#[99, 111, 112, 121]⟩ : ByteArray) [.string (⟨#[99, 111, 112, 121]⟩ : ByteArray)] from rfl) (Reps.one (show Kd.M Kd.string _ _ _ (⟨#[114, 101, 103]⟩ : ByteArray) [.string (⟨#[114, 101, 103]⟩ : ByteArray)] from rfl) (Reps.one (show Kd.M Kd.string _ _ _ (⟨#[104, 101, 108, 108, 105, 112]⟩ : ByteArray) [.string (⟨#[104, 101, 108, 108, 105, 112]⟩ : ByteArray)] from rfl) (Reps.one (show Kd.M Kd.string _ _ _ (⟨#[109, 100, 97, 115, 104]⟩ : ByteArray) [.string (⟨#[109, 100, 97, 115, 104]⟩ : ByteArray)] from rfl) (Reps.one (show Kd.M Kd.string _ _ _ (⟨#[110, 100, 97, 115, 104]⟩ : ByteArray) [.string (⟨#[110, 100, 97, 115, 104]⟩ : ByteArray)] from rfl) (Reps.one (show Kd.M Kd.string _ _ _ (⟨#[108, 115, 113, 117, 111]⟩ : ByteArray) [.string (⟨#[108, 115, 113, 117, 111]⟩ : ByteArray)] from rfl) (Reps.one (show Kd.M Kd.string _ _ _ (⟨#[114, 115, 113, 117, 111]⟩ : ByteArray) [.string (⟨#[114, 115, 113, 117, 111]⟩ : ByteArray)] from rfl) (Reps.one (show Kd.M Kd.string _ _ _ (⟨#[108, 100, 113, 117, 111]⟩ : ByteArray) [.string (⟨#[108, 100, 113, 117, 111]⟩ : ByteArray)] from rfl) (Reps.one (show Kd.M Kd.string _ _ _ (⟨#[114, 100, 113, 117, 111]⟩ : ByteArray) [.string (⟨#[114, 100, 113, 117, 111]⟩ : ByteArray)] from rfl) (Reps.one (show Kd.M Kd.string _ _ _ (⟨#[101, 117, 114, 111]⟩ : ByteArray) [.string (⟨#[101, 117, 114, 111]⟩ : ByteArray)] from rfl) (Reps.one (show Kd.M Kd.string _ _ _ (⟨#[116, 105, 109, 101, 115]⟩ : ByteArray) [.string (⟨#[116, 105, 109, 101, 115]⟩ : ByteArray)] from rfl) (Reps.one (show Kd.M Kd.string _ _ _ (⟨#[100, 105, 118, 105, 100, 101]⟩ : ByteArray) [.string (⟨#[100, 105, 118, 105, 100, 101]⟩ : ByteArray)] from rfl) (Reps.one (show Kd.M Kd.string _ _ _ (⟨#[112, 97, 114, 97]⟩ : ByteArray) [.string (⟨#[112, 97, 114, 97]⟩ : ByteArray)] from rfl) (Reps.one (show Kd.M Kd.string _ _ _ (⟨#[115, 101, 99, 116]⟩ : ByteArray) [.string (⟨#[115, 101, 99, 116]⟩ : ByteArray)] from rfl) (Reps.one (show Kd.M Kd.string _ _ _ (⟨#[110, 111, 116]⟩ : ByteArray) [.string (⟨#[110, 111, 116]⟩ : ByteArray)] from rfl) (Reps.one (show Kd.M Kd.string _ _ _ (⟨#[110, 111, 116, 105, 110]⟩ : ByteArray) [.string (⟨#[110, 111, 116, 105, 110]⟩ : ByteArray)] from rfl) (Reps.none _ _)))))))))))))))))))))))); intro v206 w8 ho9 hb hg_ hnew_; clear hg_ hnew_; (first | rw [← Ny205.out] at ho9 | (simp only [Int.reduceToNat] at ho9; rw [← Ny205.out] at ho9)); have n0_ := Aside0.mk (Kd.R_lower ho9 (below_size (by repeat (first | (with_reducible first | exact HB.out | apply below_alloc | apply pw_below_drewN | apply below_drew1) | exact HB.out)))); have n1_ := Aside0.mk (below_step (by repeat (first | (with_reducible first | exact HB.out | apply below_alloc | apply pw_below_drewN | apply below_drew1) | exact HB.out)) hb); clear HB; have HO207 := n0_; have HB := n1_; clear n0_ n1_; clear hb ho9; obtain ⟨Ao10, co10, eo10⟩ := Kd.R_slice HO207.out; subst eo10; have p208 : 0 ≤ ((ji4) : Int) := of_decide_eq_true (by first | (with_reducible assumption) | assumption); have q208 : (ji4) < (y205.length : Int) := of_decide_eq_true (by first | (with_reducible assumption) | assumption); obtain ⟨ad208, e208, hx208_0⟩ := Kd.at_string (Kd.R_reads' HO207.out).2.2 (ji4) p208 q208; cases e208; replace p208 := eq_true p208; replace q208 := eq_true q208))
        (try simp only [Act.put, List.setIfInBounds_toArray, List.set_cons_zero, List.set_cons_succ])
        go_cut [28] (fun v28 wc => ∃ (kq : Nat) (x28_6 : Bool), v28 = .bool x28_6 ∧ Aside0 (portierelaw04_CharrefEnds.j0 kq a1 (rdOf ByteArray.empty y205 (ji4)) x28_6 = some r) ∧ Aside0 (kq ≤ k) ∧ Aside0 (Below w.heap.size w wc))
        case first =>
          have H := HC7.out
          clear HC7
          by_cases c11 : (a1.size : Int) > 100
          · rw [if_pos c11] at H
            have c11b0 : decide (100 < (a1.size : Int)) = true := decide_eq_true c11
            have c11b1 : decide (100 < a1.size) = true := decide_eq_true (by omega)
            clear c11
            (first | rw [c11b0] | (simp only [i64_w, i32_w]; rw [c11b0]) | skip)
            have H' := Aside0.mk H
            clear H
            go_wp2
            go_meet
            case rel => exact ⟨_, (true), (by first | rfl | (simp; done) | (simp [*]; done)), (by first | exact H' | (simp only [hji4]; exact H')), ⟨by first | omega | exact Nat.le_refl _⟩, ⟨by repeat (first | (with_reducible first | exact HB.out | apply below_alloc | apply pw_below_drewN | apply below_drew1) | exact HB.out)⟩⟩
          · rw [if_neg c11] at H
            have c11b0 : decide (100 < (a1.size : Int)) = false := decide_eq_false c11
            have c11b1 : decide (100 < a1.size) = false := decide_eq_false (by omega)
            clear c11
            (first | rw [c11b0] | (simp only [i64_w, i32_w]; rw [c11b0]) | skip)
            replace H := Option.bind_eq_some_iff.mp H
            obtain ⟨t209, A120, H⟩ := H
            replace H : (portierelaw04_CharrefEnds.j0 k a1 (rdOf ByteArray.empty y205 (ji4)) (!t209)) = some r := H
            have A12 := Aside0.mk A120
            clear A120
            have H' := Aside0.mk H
            clear H
            go_wp2_with (first | (go_at_call 10; (with_reducible refine (portierelaw04_known.calls  t209 _ A12.out).mono ?_); rintro e w13 ⟨rfl, hb⟩; have n0_ := Aside0.mk (Kd.R_below (by (with_reducible repeat (first | apply Kd.R_alloc | apply Kd.R_drewN | apply Kd.R_drew)); exact HO207.out) hb); have n1_ := Aside0.mk (below_step (by repeat (first | (with_reducible first | exact HB.out | apply below_alloc | apply pw_below_drewN | apply below_drew1) | exact HB.out)) hb); clear HO207; clear HB; have HO207 := n0_; have HB := n1_; clear n0_ n1_; (try clear hb); (try clear hb2); (try clear hk); (try clear hi)))
            go_meet
            case rel => exact ⟨_, (!t209), (by first | rfl | (simp; done) | (simp [*]; done)), (by first | exact H' | (simp only [hji4]; exact H')), ⟨by first | omega | exact Nat.le_refl _⟩, ⟨by repeat (first | (with_reducible first | exact HB.out | apply below_alloc | apply pw_below_drewN | apply below_drew1) | exact HB.out)⟩⟩
        case rest =>
          clear HC7
          try clear c1
          try clear p2
          try clear q2
          try clear hx2
          try clear c3
          try clear c3b0
          try clear c3b1
          try clear c3b2
          try clear c5
          try clear c5b0
          try clear c6
          try clear c6b0
          try clear p6
          try clear c9
          try clear c11
          try clear c11b0
          try clear c11b1
          try clear hx208_0
          try clear p208
          try clear q208
          obtain ⟨kq, x28_6, rfl, HA, HJ6, HB⟩ := hcut
          cases kq with
          | zero => exact absurd HA.out (by simp [portierelaw04_CharrefEnds.j0])
          | succ kj6 =>
            have H := HA.out
            clear HA
            simp only [portierelaw04_CharrefEnds.j0] at H
            by_cases c14 : x28_6 = true
            · subst c14
              have H1 : ((portierelaw04_known.f).bind fun t210 => (some t210)) = some r := by rw [if_pos rfl] at H; exact H
              clear H
              have H := H1
              clear H1
              replace H := Option.bind_eq_some_iff.mp H
              obtain ⟨t210, A150, H⟩ := H
              replace H : (some t210) = some r := H
              have A15 := Aside0.mk A150
              clear A150
              obtain rfl := Option.some.inj H
              go_wp2_with (first | ((with_reducible refine gate_callee (f := 10) rfl ?_); refine goesL_ (some 29) rfl rfl Try.func10 (by kernel_rfl) rfl #[] rfl (by (try simp only [List.map_toArray, List.map_cons, List.map_nil]); first | done | rfl | (simp only [List.length_drop, List.length_take]; rfl)) ?_; (with_reducible refine (portierelaw04_known.calls  t210 _ A15.out).mono ?_); rintro e w16 ⟨rfl, hb⟩; refine ⟨_, rfl, ?_⟩; have n0_ := Aside0.mk (below_step (by repeat (first | (with_reducible first | exact HB.out | apply below_alloc | apply pw_below_drewN | apply below_drew1) | exact HB.out)) hb); clear HB; have HB := n0_; clear n0_; (try clear hb); (try clear hb2); (try clear hk); (try clear hi)))
              go_ret
              exact ⟨by first | rfl | (simp [errW_none, errW_some] <;> rfl) | (simp only [← hji4]; first | rfl | (simp [errW_none, errW_some] <;> rfl)) | (simp [*, errW_none, errW_some] <;> rfl), by repeat (first | (with_reducible first | exact HB.out | apply below_alloc | apply pw_below_drewN | apply below_drew1) | exact HB.out)⟩
            · replace c14 := Bool.eq_false_iff.mpr c14
              subst c14
              have H1 : (if 1 + (rdOf ByteArray.empty y205 (ji4)).size ≤ 9223372036854775807 then (if 1 + (rdOf ByteArray.empty y205 (ji4)).size + 1 ≤ 9223372036854775807 then (if 1 + (rdOf ByteArray.empty y205 (ji4)).size + 1 + a1.size ≤ 9223372036854775807 then ((charref_Take.f ((((⟨#[38]⟩ : ByteArray) ++ (rdOf ByteArray.empty y205 (ji4))) ++ (⟨#[59]⟩ : ByteArray)) ++ a1) 0 false).bind fun bt211 => ((charref_Take.f ((((⟨#[38]⟩ : ByteArray) ++ (rdOf ByteArray.empty y205 (ji4))) ++ (⟨#[59]⟩ : ByteArray)) ++ a1) 0 true).bind fun bt214 => (if bt211.1.toList = bt214.1.toList then (if bt211.2.1 = bt214.2.1 then (if bt211.2.2 = 0 then (if bt214.2.2 = 0 then (if bt211.2.1 = (wrap64 (((rdOf ByteArray.empty y205 (ji4)).size : Int) + 2)) then (some (!bt211.1.toList.isEmpty)) else (some false)) else (some false)) else (some false)) else (some false)) else (some false)))) else (none)) else (none)) else (none)) = some r := by rw [if_neg (show ¬ (false = true) by decide)] at H; exact H
              clear H
              have H := H1
              clear H1
              by_cases c17 : 1 + (rdOf ByteArray.empty y205 (ji4)).size ≤ 9223372036854775807
              · rw [if_pos c17] at H
                have c17b0 := eq_true c17
                have c17b1 : decide (1 + (rdOf ByteArray.empty y205 (ji4)).size ≤ 9223372036854775807) = true := decide_eq_true c17
                try have c17b2 : (9223372036854775807 < 1 + (rdOf ByteArray.empty y205 (ji4)).size) = False := eq_false (Nat.not_lt.2 c17)
                by_cases c18 : 1 + (rdOf ByteArray.empty y205 (ji4)).size + 1 ≤ 9223372036854775807
                · rw [if_pos c18] at H
                  have c18b0 := eq_true c18
                  have c18b1 : decide (1 + (rdOf ByteArray.empty y205 (ji4)).size + 1 ≤ 9223372036854775807) = true := decide_eq_true c18
                  try have c18b2 : (9223372036854775807 < 1 + (rdOf ByteArray.empty y205 (ji4)).size + 1) = False := eq_false (Nat.not_lt.2 c18)
                  by_cases c19 : 1 + (rdOf ByteArray.empty y205 (ji4)).size + 1 + a1.size ≤ 9223372036854775807
                  · rw [if_pos c19] at H
                    have c19b0 := eq_true c19
                    have c19b1 : decide (1 + (rdOf ByteArray.empty y205 (ji4)).size + 1 + a1.size ≤ 9223372036854775807) = true := decide_eq_true c19
                    try have c19b2 : (9223372036854775807 < 1 + (rdOf ByteArray.empty y205 (ji4)).size + 1 + a1.size) = False := eq_false (Nat.not_lt.2 c19)
                    replace H := Option.bind_eq_some_iff.mp H
                    obtain ⟨⟨t211, t212, t213⟩, A200, H⟩ := H
                    replace H : ((charref_Take.f ((((⟨#[38]⟩ : ByteArray) ++ (rdOf ByteArray.empty y205 (ji4))) ++ (⟨#[59]⟩ : ByteArray)) ++ a1) 0 true).bind fun bt214 => (if t211.toList = bt214.1.toList then (if t212 = bt214.2.1 then (if t213 = 0 then (if bt214.2.2 = 0 then (if t212 = (wrap64 (((rdOf ByteArray.empty y205 (ji4)).size : Int) + 2)) then (some (!t211.toList.isEmpty)) else (some false)) else (some false)) else (some false)) else (some false)) else (some false))) = some r := H
                    have A20 := Aside0.mk A200
                    clear A200
                    replace H := Option.bind_eq_some_iff.mp H
                    obtain ⟨⟨t214, t215, t216⟩, A210, H⟩ := H
                    replace H : (if t211.toList = t214.toList then (if t212 = t215 then (if t213 = 0 then (if t216 = 0 then (if t212 = (wrap64 (((rdOf ByteArray.empty y205 (ji4)).size : Int) + 2)) then (some (!t211.toList.isEmpty)) else (some false)) else (some false)) else (some false)) else (some false)) else (some false)) = some r := H
                    have A21 := Aside0.mk A210
                    clear A210
                    by_cases c22 : t211.toList = t214.toList
                    · rw [if_pos c22] at H
                      have c22b0 : (t211.toList == t214.toList) = true := beq_iff_eq.mpr c22
                      have c22b1 : (t211.toList != t214.toList) = false := bne_eq_false_iff_eq.mpr c22
                      clear c22
                      by_cases c23 : t212 = t215
                      · rw [if_pos c23] at H
                        have c23b0 : (t212 == t215) = true := beq_iff_eq.mpr c23
                        have c23b1 : (t212 != t215) = false := bne_eq_false_iff_eq.mpr c23
                        clear c23
                        by_cases c24 : t213 = 0
                        · rw [if_pos c24] at H
                          have c24b0 : (t213 == 0) = true := beq_iff_eq.mpr c24
                          have c24b1 : (t213 != 0) = false := bne_eq_false_iff_eq.mpr c24
                          clear c24
                          by_cases c25 : t216 = 0
                          · rw [if_pos c25] at H
                            have c25b0 : (t216 == 0) = true := beq_iff_eq.mpr c25
                            have c25b1 : (t216 != 0) = false := bne_eq_false_iff_eq.mpr c25
                            clear c25
                            by_cases c26 : t212 = (wrap64 (((rdOf ByteArray.empty y205 (ji4)).size : Int) + 2))
                            · rw [if_pos c26] at H
                              (try (have c26u : (t212 = ((((rdOf ByteArray.empty y205 (ji4)).size : Int) + 2))) := by (have h_ := c26; unfold wrap64 at h_; omega)))
                              (try (have c26ub0 : (t212 == ((((rdOf ByteArray.empty y205 (ji4)).size : Int) + 2))) = true := beq_iff_eq.mpr c26u))
                              (try (have c26ub1 : (t212 != ((((rdOf ByteArray.empty y205 (ji4)).size : Int) + 2))) = false := bne_eq_false_iff_eq.mpr c26u))
                              (try clear c26u)
                              have c26b0 : (t212 == (wrap64 (((rdOf ByteArray.empty y205 (ji4)).size : Int) + 2))) = true := beq_iff_eq.mpr c26
                              have c26b1 : (t212 != (wrap64 (((rdOf ByteArray.empty y205 (ji4)).size : Int) + 2))) = false := bne_eq_false_iff_eq.mpr c26
                              clear c26
                              obtain rfl := Option.some.inj H
                              go_wp2_with (first | ((with_reducible refine gate_callee (f := 13) rfl ?_); refine goesL_ (some 36) rfl rfl Try.func13 (by kernel_rfl) rfl #[.string ((((⟨#[38]⟩ : ByteArray) ++ (rdOf ByteArray.empty y205 (ji4))) ++ (⟨#[59]⟩ : ByteArray)) ++ a1), .int .i64 0, .bool false] rfl (by (try simp only [List.map_toArray, List.map_cons, List.map_nil]); first | done | (simp only [hji4]; rfl) | rfl | (simp only [List.length_drop, List.length_take]; rfl)) ?_; (with_reducible refine (charref_Take.calls ((((⟨#[38]⟩ : ByteArray) ++ (rdOf ByteArray.empty y205 (ji4))) ++ (⟨#[59]⟩ : ByteArray)) ++ a1) 0 false t211 t212 t213 _ A20.out).mono ?_); rintro e w27 ⟨rfl, hb⟩; refine ⟨_, rfl, ?_⟩; have n0_ := Aside0.mk (below_step (by repeat (first | (with_reducible first | exact HB.out | apply below_alloc | apply pw_below_drewN | apply below_drew1) | exact HB.out)) hb); clear HB; have HB := n0_; clear n0_; (try clear hb); (try clear hb2); (try clear hk); (try clear hi)) | ((with_reducible refine gate_callee (f := 13) rfl ?_); refine goesL_ (some 46) rfl rfl Try.func13 (by kernel_rfl) rfl #[.string ((((⟨#[38]⟩ : ByteArray) ++ (rdOf ByteArray.empty y205 (ji4))) ++ (⟨#[59]⟩ : ByteArray)) ++ a1), .int .i64 0, .bool true] rfl (by (try simp only [List.map_toArray, List.map_cons, List.map_nil]); first | done | (simp only [hji4]; rfl) | rfl | (simp only [List.length_drop, List.length_take]; rfl)) ?_; (with_reducible refine (charref_Take.calls ((((⟨#[38]⟩ : ByteArray) ++ (rdOf ByteArray.empty y205 (ji4))) ++ (⟨#[59]⟩ : ByteArray)) ++ a1) 0 true t214 t215 t216 _ A21.out).mono ?_); rintro e w28 ⟨rfl, hb⟩; refine ⟨_, rfl, ?_⟩; have n0_ := Aside0.mk (below_step (by repeat (first | (with_reducible first | exact HB.out | apply below_alloc | apply pw_below_drewN | apply below_drew1) | exact HB.out)) hb); clear HB; have HB := n0_; clear n0_; (try clear hb); (try clear hb2); (try clear hk); (try clear hi)))
                              go_ret
                              exact ⟨by first | rfl | (simp [errW_none, errW_some] <;> rfl) | (simp only [← hji4]; first | rfl | (simp [errW_none, errW_some] <;> rfl)) | (simp [*, errW_none, errW_some] <;> rfl), by repeat (first | (with_reducible first | exact HB.out | apply below_alloc | apply pw_below_drewN | apply below_drew1) | exact HB.out)⟩
                            · rw [if_neg c26] at H
                              (try (have c26u : ¬ (t212 = ((((rdOf ByteArray.empty y205 (ji4)).size : Int) + 2))) := by (have h_ := c26; unfold wrap64 at h_; omega)))
                              (try (have c26ub0 : (t212 == ((((rdOf ByteArray.empty y205 (ji4)).size : Int) + 2))) = false := beq_eq_false_iff_ne.mpr c26u))
                              (try (have c26ub1 : (t212 != ((((rdOf ByteArray.empty y205 (ji4)).size : Int) + 2))) = true := bne_iff_ne.mpr c26u))
                              have c26b0 : (t212 == (wrap64 (((rdOf ByteArray.empty y205 (ji4)).size : Int) + 2))) = false := beq_eq_false_iff_ne.mpr c26
                              have c26b1 : (t212 != (wrap64 (((rdOf ByteArray.empty y205 (ji4)).size : Int) + 2))) = true := bne_iff_ne.mpr c26
                              obtain rfl := Option.some.inj H
                              go_wp2_with (first | ((with_reducible refine gate_callee (f := 13) rfl ?_); refine goesL_ (some 36) rfl rfl Try.func13 (by kernel_rfl) rfl #[.string ((((⟨#[38]⟩ : ByteArray) ++ (rdOf ByteArray.empty y205 (ji4))) ++ (⟨#[59]⟩ : ByteArray)) ++ a1), .int .i64 0, .bool false] rfl (by (try simp only [List.map_toArray, List.map_cons, List.map_nil]); first | done | (simp only [hji4]; rfl) | rfl | (simp only [List.length_drop, List.length_take]; rfl)) ?_; (with_reducible refine (charref_Take.calls ((((⟨#[38]⟩ : ByteArray) ++ (rdOf ByteArray.empty y205 (ji4))) ++ (⟨#[59]⟩ : ByteArray)) ++ a1) 0 false t211 t212 t213 _ A20.out).mono ?_); rintro e w29 ⟨rfl, hb⟩; refine ⟨_, rfl, ?_⟩; have n0_ := Aside0.mk (below_step (by repeat (first | (with_reducible first | exact HB.out | apply below_alloc | apply pw_below_drewN | apply below_drew1) | exact HB.out)) hb); clear HB; have HB := n0_; clear n0_; (try clear hb); (try clear hb2); (try clear hk); (try clear hi)) | ((with_reducible refine gate_callee (f := 13) rfl ?_); refine goesL_ (some 46) rfl rfl Try.func13 (by kernel_rfl) rfl #[.string ((((⟨#[38]⟩ : ByteArray) ++ (rdOf ByteArray.empty y205 (ji4))) ++ (⟨#[59]⟩ : ByteArray)) ++ a1), .int .i64 0, .bool true] rfl (by (try simp only [List.map_toArray, List.map_cons, List.map_nil]); first | done | (simp only [hji4]; rfl) | rfl | (simp only [List.length_drop, List.length_take]; rfl)) ?_; (with_reducible refine (charref_Take.calls ((((⟨#[38]⟩ : ByteArray) ++ (rdOf ByteArray.empty y205 (ji4))) ++ (⟨#[59]⟩ : ByteArray)) ++ a1) 0 true t214 t215 t216 _ A21.out).mono ?_); rintro e w30 ⟨rfl, hb⟩; refine ⟨_, rfl, ?_⟩; have n0_ := Aside0.mk (below_step (by repeat (first | (with_reducible first | exact HB.out | apply below_alloc | apply pw_below_drewN | apply below_drew1) | exact HB.out)) hb); clear HB; have HB := n0_; clear n0_; (try clear hb); (try clear hb2); (try clear hk); (try clear hi)))
                              go_ret
                              exact ⟨by first | rfl | (simp [errW_none, errW_some] <;> rfl) | (simp only [← hji4]; first | rfl | (simp [errW_none, errW_some] <;> rfl)) | (simp [*, errW_none, errW_some] <;> rfl), by repeat (first | (with_reducible first | exact HB.out | apply below_alloc | apply pw_below_drewN | apply below_drew1) | exact HB.out)⟩
                          · rw [if_neg c25] at H
                            have c25b0 : (t216 == 0) = false := beq_eq_false_iff_ne.mpr c25
                            have c25b1 : (t216 != 0) = true := bne_iff_ne.mpr c25
                            obtain rfl := Option.some.inj H
                            go_wp2_with (first | ((with_reducible refine gate_callee (f := 13) rfl ?_); refine goesL_ (some 36) rfl rfl Try.func13 (by kernel_rfl) rfl #[.string ((((⟨#[38]⟩ : ByteArray) ++ (rdOf ByteArray.empty y205 (ji4))) ++ (⟨#[59]⟩ : ByteArray)) ++ a1), .int .i64 0, .bool false] rfl (by (try simp only [List.map_toArray, List.map_cons, List.map_nil]); first | done | (simp only [hji4]; rfl) | rfl | (simp only [List.length_drop, List.length_take]; rfl)) ?_; (with_reducible refine (charref_Take.calls ((((⟨#[38]⟩ : ByteArray) ++ (rdOf ByteArray.empty y205 (ji4))) ++ (⟨#[59]⟩ : ByteArray)) ++ a1) 0 false t211 t212 t213 _ A20.out).mono ?_); rintro e w31 ⟨rfl, hb⟩; refine ⟨_, rfl, ?_⟩; have n0_ := Aside0.mk (below_step (by repeat (first | (with_reducible first | exact HB.out | apply below_alloc | apply pw_below_drewN | apply below_drew1) | exact HB.out)) hb); clear HB; have HB := n0_; clear n0_; (try clear hb); (try clear hb2); (try clear hk); (try clear hi)) | ((with_reducible refine gate_callee (f := 13) rfl ?_); refine goesL_ (some 46) rfl rfl Try.func13 (by kernel_rfl) rfl #[.string ((((⟨#[38]⟩ : ByteArray) ++ (rdOf ByteArray.empty y205 (ji4))) ++ (⟨#[59]⟩ : ByteArray)) ++ a1), .int .i64 0, .bool true] rfl (by (try simp only [List.map_toArray, List.map_cons, List.map_nil]); first | done | (simp only [hji4]; rfl) | rfl | (simp only [List.length_drop, List.length_take]; rfl)) ?_; (with_reducible refine (charref_Take.calls ((((⟨#[38]⟩ : ByteArray) ++ (rdOf ByteArray.empty y205 (ji4))) ++ (⟨#[59]⟩ : ByteArray)) ++ a1) 0 true t214 t215 t216 _ A21.out).mono ?_); rintro e w32 ⟨rfl, hb⟩; refine ⟨_, rfl, ?_⟩; have n0_ := Aside0.mk (below_step (by repeat (first | (with_reducible first | exact HB.out | apply below_alloc | apply pw_below_drewN | apply below_drew1) | exact HB.out)) hb); clear HB; have HB := n0_; clear n0_; (try clear hb); (try clear hb2); (try clear hk); (try clear hi)))
                            go_ret
                            exact ⟨by first | rfl | (simp [errW_none, errW_some] <;> rfl) | (simp only [← hji4]; first | rfl | (simp [errW_none, errW_some] <;> rfl)) | (simp [*, errW_none, errW_some] <;> rfl), by repeat (first | (with_reducible first | exact HB.out | apply below_alloc | apply pw_below_drewN | apply below_drew1) | exact HB.out)⟩
                        · rw [if_neg c24] at H
                          have c24b0 : (t213 == 0) = false := beq_eq_false_iff_ne.mpr c24
                          have c24b1 : (t213 != 0) = true := bne_iff_ne.mpr c24
                          obtain rfl := Option.some.inj H
                          go_wp2_with (first | ((with_reducible refine gate_callee (f := 13) rfl ?_); refine goesL_ (some 36) rfl rfl Try.func13 (by kernel_rfl) rfl #[.string ((((⟨#[38]⟩ : ByteArray) ++ (rdOf ByteArray.empty y205 (ji4))) ++ (⟨#[59]⟩ : ByteArray)) ++ a1), .int .i64 0, .bool false] rfl (by (try simp only [List.map_toArray, List.map_cons, List.map_nil]); first | done | (simp only [hji4]; rfl) | rfl | (simp only [List.length_drop, List.length_take]; rfl)) ?_; (with_reducible refine (charref_Take.calls ((((⟨#[38]⟩ : ByteArray) ++ (rdOf ByteArray.empty y205 (ji4))) ++ (⟨#[59]⟩ : ByteArray)) ++ a1) 0 false t211 t212 t213 _ A20.out).mono ?_); rintro e w33 ⟨rfl, hb⟩; refine ⟨_, rfl, ?_⟩; have n0_ := Aside0.mk (below_step (by repeat (first | (with_reducible first | exact HB.out | apply below_alloc | apply pw_below_drewN | apply below_drew1) | exact HB.out)) hb); clear HB; have HB := n0_; clear n0_; (try clear hb); (try clear hb2); (try clear hk); (try clear hi)) | ((with_reducible refine gate_callee (f := 13) rfl ?_); refine goesL_ (some 46) rfl rfl Try.func13 (by kernel_rfl) rfl #[.string ((((⟨#[38]⟩ : ByteArray) ++ (rdOf ByteArray.empty y205 (ji4))) ++ (⟨#[59]⟩ : ByteArray)) ++ a1), .int .i64 0, .bool true] rfl (by (try simp only [List.map_toArray, List.map_cons, List.map_nil]); first | done | (simp only [hji4]; rfl) | rfl | (simp only [List.length_drop, List.length_take]; rfl)) ?_; (with_reducible refine (charref_Take.calls ((((⟨#[38]⟩ : ByteArray) ++ (rdOf ByteArray.empty y205 (ji4))) ++ (⟨#[59]⟩ : ByteArray)) ++ a1) 0 true t214 t215 t216 _ A21.out).mono ?_); rintro e w34 ⟨rfl, hb⟩; refine ⟨_, rfl, ?_⟩; have n0_ := Aside0.mk (below_step (by repeat (first | (with_reducible first | exact HB.out | apply below_alloc | apply pw_below_drewN | apply below_drew1) | exact HB.out)) hb); clear HB; have HB := n0_; clear n0_; (try clear hb); (try clear hb2); (try clear hk); (try clear hi)))
                          go_ret
                          exact ⟨by first | rfl | (simp [errW_none, errW_some] <;> rfl) | (simp only [← hji4]; first | rfl | (simp [errW_none, errW_some] <;> rfl)) | (simp [*, errW_none, errW_some] <;> rfl), by repeat (first | (with_reducible first | exact HB.out | apply below_alloc | apply pw_below_drewN | apply below_drew1) | exact HB.out)⟩
                      · rw [if_neg c23] at H
                        have c23b0 : (t212 == t215) = false := beq_eq_false_iff_ne.mpr c23
                        have c23b1 : (t212 != t215) = true := bne_iff_ne.mpr c23
                        obtain rfl := Option.some.inj H
                        go_wp2_with (first | ((with_reducible refine gate_callee (f := 13) rfl ?_); refine goesL_ (some 36) rfl rfl Try.func13 (by kernel_rfl) rfl #[.string ((((⟨#[38]⟩ : ByteArray) ++ (rdOf ByteArray.empty y205 (ji4))) ++ (⟨#[59]⟩ : ByteArray)) ++ a1), .int .i64 0, .bool false] rfl (by (try simp only [List.map_toArray, List.map_cons, List.map_nil]); first | done | (simp only [hji4]; rfl) | rfl | (simp only [List.length_drop, List.length_take]; rfl)) ?_; (with_reducible refine (charref_Take.calls ((((⟨#[38]⟩ : ByteArray) ++ (rdOf ByteArray.empty y205 (ji4))) ++ (⟨#[59]⟩ : ByteArray)) ++ a1) 0 false t211 t212 t213 _ A20.out).mono ?_); rintro e w35 ⟨rfl, hb⟩; refine ⟨_, rfl, ?_⟩; have n0_ := Aside0.mk (below_step (by repeat (first | (with_reducible first | exact HB.out | apply below_alloc | apply pw_below_drewN | apply below_drew1) | exact HB.out)) hb); clear HB; have HB := n0_; clear n0_; (try clear hb); (try clear hb2); (try clear hk); (try clear hi)) | ((with_reducible refine gate_callee (f := 13) rfl ?_); refine goesL_ (some 46) rfl rfl Try.func13 (by kernel_rfl) rfl #[.string ((((⟨#[38]⟩ : ByteArray) ++ (rdOf ByteArray.empty y205 (ji4))) ++ (⟨#[59]⟩ : ByteArray)) ++ a1), .int .i64 0, .bool true] rfl (by (try simp only [List.map_toArray, List.map_cons, List.map_nil]); first | done | (simp only [hji4]; rfl) | rfl | (simp only [List.length_drop, List.length_take]; rfl)) ?_; (with_reducible refine (charref_Take.calls ((((⟨#[38]⟩ : ByteArray) ++ (rdOf ByteArray.empty y205 (ji4))) ++ (⟨#[59]⟩ : ByteArray)) ++ a1) 0 true t214 t215 t216 _ A21.out).mono ?_); rintro e w36 ⟨rfl, hb⟩; refine ⟨_, rfl, ?_⟩; have n0_ := Aside0.mk (below_step (by repeat (first | (with_reducible first | exact HB.out | apply below_alloc | apply pw_below_drewN | apply below_drew1) | exact HB.out)) hb); clear HB; have HB := n0_; clear n0_; (try clear hb); (try clear hb2); (try clear hk); (try clear hi)))
                        go_ret
                        exact ⟨by first | rfl | (simp [errW_none, errW_some] <;> rfl) | (simp only [← hji4]; first | rfl | (simp [errW_none, errW_some] <;> rfl)) | (simp [*, errW_none, errW_some] <;> rfl), by repeat (first | (with_reducible first | exact HB.out | apply below_alloc | apply pw_below_drewN | apply below_drew1) | exact HB.out)⟩
                    · rw [if_neg c22] at H
                      have c22b0 : (t211.toList == t214.toList) = false := beq_eq_false_iff_ne.mpr c22
                      have c22b1 : (t211.toList != t214.toList) = true := bne_iff_ne.mpr c22
                      obtain rfl := Option.some.inj H
                      go_wp2_with (first | ((with_reducible refine gate_callee (f := 13) rfl ?_); refine goesL_ (some 36) rfl rfl Try.func13 (by kernel_rfl) rfl #[.string ((((⟨#[38]⟩ : ByteArray) ++ (rdOf ByteArray.empty y205 (ji4))) ++ (⟨#[59]⟩ : ByteArray)) ++ a1), .int .i64 0, .bool false] rfl (by (try simp only [List.map_toArray, List.map_cons, List.map_nil]); first | done | (simp only [hji4]; rfl) | rfl | (simp only [List.length_drop, List.length_take]; rfl)) ?_; (with_reducible refine (charref_Take.calls ((((⟨#[38]⟩ : ByteArray) ++ (rdOf ByteArray.empty y205 (ji4))) ++ (⟨#[59]⟩ : ByteArray)) ++ a1) 0 false t211 t212 t213 _ A20.out).mono ?_); rintro e w37 ⟨rfl, hb⟩; refine ⟨_, rfl, ?_⟩; have n0_ := Aside0.mk (below_step (by repeat (first | (with_reducible first | exact HB.out | apply below_alloc | apply pw_below_drewN | apply below_drew1) | exact HB.out)) hb); clear HB; have HB := n0_; clear n0_; (try clear hb); (try clear hb2); (try clear hk); (try clear hi)) | ((with_reducible refine gate_callee (f := 13) rfl ?_); refine goesL_ (some 46) rfl rfl Try.func13 (by kernel_rfl) rfl #[.string ((((⟨#[38]⟩ : ByteArray) ++ (rdOf ByteArray.empty y205 (ji4))) ++ (⟨#[59]⟩ : ByteArray)) ++ a1), .int .i64 0, .bool true] rfl (by (try simp only [List.map_toArray, List.map_cons, List.map_nil]); first | done | (simp only [hji4]; rfl) | rfl | (simp only [List.length_drop, List.length_take]; rfl)) ?_; (with_reducible refine (charref_Take.calls ((((⟨#[38]⟩ : ByteArray) ++ (rdOf ByteArray.empty y205 (ji4))) ++ (⟨#[59]⟩ : ByteArray)) ++ a1) 0 true t214 t215 t216 _ A21.out).mono ?_); rintro e w38 ⟨rfl, hb⟩; refine ⟨_, rfl, ?_⟩; have n0_ := Aside0.mk (below_step (by repeat (first | (with_reducible first | exact HB.out | apply below_alloc | apply pw_below_drewN | apply below_drew1) | exact HB.out)) hb); clear HB; have HB := n0_; clear n0_; (try clear hb); (try clear hb2); (try clear hk); (try clear hi)))
                      go_ret
                      exact ⟨by first | rfl | (simp [errW_none, errW_some] <;> rfl) | (simp only [← hji4]; first | rfl | (simp [errW_none, errW_some] <;> rfl)) | (simp [*, errW_none, errW_some] <;> rfl), by repeat (first | (with_reducible first | exact HB.out | apply below_alloc | apply pw_below_drewN | apply below_drew1) | exact HB.out)⟩
                  · rw [if_neg c19] at H
                    exact absurd H (by simp)
                · rw [if_neg c18] at H
                  exact absurd H (by simp)
              · rw [if_neg c17] at H
                exact absurd H (by simp)
      · rw [if_neg c6] at H
        exact absurd H (by simp)
    · rw [if_neg c5] at H
      exact absurd H (by simp)

/-- THE ONE PURE STATEMENT of portierelaw04_CharrefEnds: yours. -/
def portierelaw04_CharrefEnds.Pure : Prop := ∀ (a0 : Int) (a1 : ByteArray), (Lit.int .u8 a0).wf = true → a1.size ≤ 140737488351232 → ∃ k, portierelaw04_CharrefEnds.f k a0 a1 = some true
theorem portierelaw04_CharrefEnds.walk (P : portierelaw04_CharrefEnds.Pure) (a0 : Int) (a1 : ByteArray) (w : World) (w0 : (Lit.int .u8 a0).wf = true) (w1 : a1.size ≤ 140737488351232) :
    Calls Try.prog 9 #[.int .u8 a0, .string a1] w fun e w' => e = .returned (.bool true) ∧ Below w.heap.size w w' := by
  obtain ⟨k, h⟩ := P a0 a1 w0 w1
  refine (portierelaw04_CharrefEnds.calls k a0 a1 true w h).mono ?_
  rintro e w' ⟨rfl, hd⟩
  exact ⟨rfl, hd⟩

/-! ### portierelaw04_CharrefParts: function 3 -/
def portierelaw04_CharrefParts.j0 : Nat → ByteArray → ByteArray → Bool → Option (Bool)
  | 0, _, _, _ => none
  | k + 1, x0, x1, x16 => if x16 = true then ((portierelaw04_known.f).bind fun t218 => (some t218)) else (if x0.size + 1 ≤ 9223372036854775807 then (if x0.size + 1 + x1.size ≤ 9223372036854775807 then ((charref_All.f ((x0 ++ (⟨#[32]⟩ : ByteArray)) ++ x1) false).bind fun t219 => ((charref_All.f x0 false).bind fun t220 => (if t220.size + 1 ≤ 9223372036854775807 then ((charref_All.f x1 false).bind fun t221 => (if t220.size + 1 + t221.size ≤ 9223372036854775807 then (some (t219.toList == ((t220 ++ (⟨#[32]⟩ : ByteArray)) ++ t221).toList)) else (none))) else (none)))) else (none)) else (none))
def portierelaw04_CharrefParts.f (k : Nat) (a0 : ByteArray) (a1 : ByteArray) : Option (Bool) := if (a0.size : Int) > 500 then (portierelaw04_CharrefParts.j0 k a0 a1 true) else (if (a1.size : Int) > 500 then (portierelaw04_CharrefParts.j0 k a0 a1 true) else ((portierelaw04_known.f).bind fun t217 => (portierelaw04_CharrefParts.j0 k a0 a1 (!t217))))
theorem portierelaw04_CharrefParts.mono_l : ∀ k, (∀ y0 y1 y2, LeO (portierelaw04_CharrefParts.j0 k y0 y1 y2) (portierelaw04_CharrefParts.j0 (k + 1) y0 y1 y2))
  | 0 => fun _ _ _ r h => by simp [portierelaw04_CharrefParts.j0] at h
  | k + 1 => by
    have ih0 := portierelaw04_CharrefParts.mono_l k
    · intro y0 y1 y2
      unfold portierelaw04_CharrefParts.j0
      repeat' first
      | (with_reducible exact ih0 _ _ _)
      | (with_reducible exact LeO.refl _)
      | (with_reducible exact LeO.none _)
      | (with_reducible refine LeO.ite ?_ ?_)
      | (with_reducible refine LeO.bind ?_ (fun _ => ?_))
      | exact ih0 _ _ _
      | exact LeO.none _
      | refine LeO.ite ?_ ?_
      | refine LeO.bind ?_ (fun _ => ?_)
theorem portierelaw04_CharrefParts.mono : ∀ a0 a1 k, LeO (portierelaw04_CharrefParts.f k a0 a1) (portierelaw04_CharrefParts.f (k + 1) a0 a1) := by
  intro a0 a1 k
  have ih0 := portierelaw04_CharrefParts.mono_l k
  unfold portierelaw04_CharrefParts.f
  repeat' first
      | (with_reducible exact ih0 _ _ _)
      | (with_reducible exact LeO.refl _)
      | (with_reducible exact LeO.none _)
      | (with_reducible refine LeO.ite ?_ ?_)
      | (with_reducible refine LeO.bind ?_ (fun _ => ?_))
      | exact ih0 _ _ _
      | exact LeO.none _
      | refine LeO.ite ?_ ?_
      | refine LeO.bind ?_ (fun _ => ?_)
set_option maxHeartbeats 8000000 in
set_option maxRecDepth 100000 in
theorem portierelaw04_CharrefParts.calls (k : Nat) (a0 : ByteArray) (a1 : ByteArray) (r : Bool) (w : World) (h : portierelaw04_CharrefParts.f k a0 a1 = some r) :
    Calls Try.prog 3 #[.string a0, .string a1] w fun e w' => e = .returned (.bool r) ∧ Below w.heap.size w w' := by
  have HB := Aside0.mk (Below.refl w.heap.size w)
  have H : (if (a0.size : Int) > 500 then (portierelaw04_CharrefParts.j0 k a0 a1 true) else (if (a1.size : Int) > 500 then (portierelaw04_CharrefParts.j0 k a0 a1 true) else ((portierelaw04_known.f).bind fun t217 => (portierelaw04_CharrefParts.j0 k a0 a1 (!t217))))) = some r := h
  clear h
  have HC3 := Aside0.mk H
  clear H
  go_enter Try.func3, Try.ntmps3
  go_upto_region 1 with (fail)
  go_cut [16] (fun v16 wc => ∃ (kq : Nat) (x16_2 : Bool), v16 = .bool x16_2 ∧ Aside0 (portierelaw04_CharrefParts.j0 kq a0 a1 x16_2 = some r) ∧ Aside0 (kq ≤ k) ∧ Aside0 (Below w.heap.size w wc))
  case first =>
    have H := HC3.out
    clear HC3
    by_cases c4 : (a0.size : Int) > 500
    · rw [if_pos c4] at H
      have c4b0 : decide (500 < (a0.size : Int)) = true := decide_eq_true c4
      have c4b1 : decide (500 < a0.size) = true := decide_eq_true (by omega)
      clear c4
      (first | rw [c4b0] | (simp only [i64_w, i32_w]; rw [c4b0]) | skip)
      have H' := Aside0.mk H
      clear H
      go_wp2
      go_meet
      case rel => exact ⟨_, (true), (by first | rfl | (simp; done) | (simp [*]; done)), H', ⟨by first | omega | exact Nat.le_refl _⟩, ⟨by repeat (first | (with_reducible first | exact HB.out | apply below_alloc | apply pw_below_drewN | apply below_drew1) | exact HB.out)⟩⟩
    · rw [if_neg c4] at H
      have c4b0 : decide (500 < (a0.size : Int)) = false := decide_eq_false c4
      have c4b1 : decide (500 < a0.size) = false := decide_eq_false (by omega)
      clear c4
      (first | rw [c4b0] | (simp only [i64_w, i32_w]; rw [c4b0]) | skip)
      by_cases c5 : (a1.size : Int) > 500
      · rw [if_pos c5] at H
        have c5b0 : decide (500 < (a1.size : Int)) = true := decide_eq_true c5
        have c5b1 : decide (500 < a1.size) = true := decide_eq_true (by omega)
        clear c5
        have H' := Aside0.mk H
        clear H
        go_wp2
        go_meet
        case rel => exact ⟨_, (true), (by first | rfl | (simp; done) | (simp [*]; done)), H', ⟨by first | omega | exact Nat.le_refl _⟩, ⟨by repeat (first | (with_reducible first | exact HB.out | apply below_alloc | apply pw_below_drewN | apply below_drew1) | exact HB.out)⟩⟩
      · rw [if_neg c5] at H
        have c5b0 : decide (500 < (a1.size : Int)) = false := decide_eq_false c5
        have c5b1 : decide (500 < a1.size) = false := decide_eq_false (by omega)
        clear c5
        replace H := Option.bind_eq_some_iff.mp H
        obtain ⟨t217, A60, H⟩ := H
        replace H : (portierelaw04_CharrefParts.j0 k a0 a1 (!t217)) = some r := H
        have A6 := Aside0.mk A60
        clear A60
        have H' := Aside0.mk H
        clear H
        go_wp2_with (first | (go_at_call 10; (with_reducible refine (portierelaw04_known.calls  t217 _ A6.out).mono ?_); rintro e w7 ⟨rfl, hb⟩; have n0_ := Aside0.mk (below_step (by repeat (first | (with_reducible first | exact HB.out | apply below_alloc | apply pw_below_drewN | apply below_drew1) | exact HB.out)) hb); clear HB; have HB := n0_; clear n0_; (try clear hb); (try clear hb2); (try clear hk); (try clear hi)))
        go_meet
        case rel => exact ⟨_, (!t217), (by first | rfl | (simp; done) | (simp [*]; done)), H', ⟨by first | omega | exact Nat.le_refl _⟩, ⟨by repeat (first | (with_reducible first | exact HB.out | apply below_alloc | apply pw_below_drewN | apply below_drew1) | exact HB.out)⟩⟩
  case rest =>
    clear HC3
    try clear p2
    try clear c3
    try clear c4
    try clear c4b0
    try clear c4b1
    try clear c5
    try clear c5b0
    try clear c5b1
    obtain ⟨kq, x16_2, rfl, HA, HJ2, HB⟩ := hcut
    cases kq with
    | zero => exact absurd HA.out (by simp [portierelaw04_CharrefParts.j0])
    | succ kj2 =>
      have H := HA.out
      clear HA
      simp only [portierelaw04_CharrefParts.j0] at H
      by_cases c8 : x16_2 = true
      · subst c8
        have H1 : ((portierelaw04_known.f).bind fun t218 => (some t218)) = some r := by rw [if_pos rfl] at H; exact H
        clear H
        have H := H1
        clear H1
        replace H := Option.bind_eq_some_iff.mp H
        obtain ⟨t218, A90, H⟩ := H
        replace H : (some t218) = some r := H
        have A9 := Aside0.mk A90
        clear A90
        obtain rfl := Option.some.inj H
        go_wp2_with (first | ((with_reducible refine gate_callee (f := 10) rfl ?_); refine goesL_ (some 17) rfl rfl Try.func10 (by kernel_rfl) rfl #[] rfl (by (try simp only [List.map_toArray, List.map_cons, List.map_nil]); first | done | rfl | (simp only [List.length_drop, List.length_take]; rfl)) ?_; (with_reducible refine (portierelaw04_known.calls  t218 _ A9.out).mono ?_); rintro e w10 ⟨rfl, hb⟩; refine ⟨_, rfl, ?_⟩; have n0_ := Aside0.mk (below_step (by repeat (first | (with_reducible first | exact HB.out | apply below_alloc | apply pw_below_drewN | apply below_drew1) | exact HB.out)) hb); clear HB; have HB := n0_; clear n0_; (try clear hb); (try clear hb2); (try clear hk); (try clear hi)))
        go_ret
        exact ⟨by first | rfl | (simp [errW_none, errW_some] <;> rfl) | (simp [*, errW_none, errW_some] <;> rfl), by repeat (first | (with_reducible first | exact HB.out | apply below_alloc | apply pw_below_drewN | apply below_drew1) | exact HB.out)⟩
      · replace c8 := Bool.eq_false_iff.mpr c8
        subst c8
        have H1 : (if a0.size + 1 ≤ 9223372036854775807 then (if a0.size + 1 + a1.size ≤ 9223372036854775807 then ((charref_All.f ((a0 ++ (⟨#[32]⟩ : ByteArray)) ++ a1) false).bind fun t219 => ((charref_All.f a0 false).bind fun t220 => (if t220.size + 1 ≤ 9223372036854775807 then ((charref_All.f a1 false).bind fun t221 => (if t220.size + 1 + t221.size ≤ 9223372036854775807 then (some (t219.toList == ((t220 ++ (⟨#[32]⟩ : ByteArray)) ++ t221).toList)) else (none))) else (none)))) else (none)) else (none)) = some r := by rw [if_neg (show ¬ (false = true) by decide)] at H; exact H
        clear H
        have H := H1
        clear H1
        by_cases c11 : a0.size + 1 ≤ 9223372036854775807
        · rw [if_pos c11] at H
          have c11b0 := eq_true c11
          have c11b1 : decide (a0.size + 1 ≤ 9223372036854775807) = true := decide_eq_true c11
          try have c11b2 : (9223372036854775807 < a0.size + 1) = False := eq_false (Nat.not_lt.2 c11)
          by_cases c12 : a0.size + 1 + a1.size ≤ 9223372036854775807
          · rw [if_pos c12] at H
            have c12b0 := eq_true c12
            have c12b1 : decide (a0.size + 1 + a1.size ≤ 9223372036854775807) = true := decide_eq_true c12
            try have c12b2 : (9223372036854775807 < a0.size + 1 + a1.size) = False := eq_false (Nat.not_lt.2 c12)
            replace H := Option.bind_eq_some_iff.mp H
            obtain ⟨t219, A130, H⟩ := H
            replace H : ((charref_All.f a0 false).bind fun t220 => (if t220.size + 1 ≤ 9223372036854775807 then ((charref_All.f a1 false).bind fun t221 => (if t220.size + 1 + t221.size ≤ 9223372036854775807 then (some (t219.toList == ((t220 ++ (⟨#[32]⟩ : ByteArray)) ++ t221).toList)) else (none))) else (none))) = some r := H
            have A13 := Aside0.mk A130
            clear A130
            replace H := Option.bind_eq_some_iff.mp H
            obtain ⟨t220, A140, H⟩ := H
            replace H : (if t220.size + 1 ≤ 9223372036854775807 then ((charref_All.f a1 false).bind fun t221 => (if t220.size + 1 + t221.size ≤ 9223372036854775807 then (some (t219.toList == ((t220 ++ (⟨#[32]⟩ : ByteArray)) ++ t221).toList)) else (none))) else (none)) = some r := H
            have A14 := Aside0.mk A140
            clear A140
            by_cases c15 : t220.size + 1 ≤ 9223372036854775807
            · rw [if_pos c15] at H
              have c15b0 := eq_true c15
              have c15b1 : decide (t220.size + 1 ≤ 9223372036854775807) = true := decide_eq_true c15
              try have c15b2 : (9223372036854775807 < t220.size + 1) = False := eq_false (Nat.not_lt.2 c15)
              replace H := Option.bind_eq_some_iff.mp H
              obtain ⟨t221, A160, H⟩ := H
              replace H : (if t220.size + 1 + t221.size ≤ 9223372036854775807 then (some (t219.toList == ((t220 ++ (⟨#[32]⟩ : ByteArray)) ++ t221).toList)) else (none)) = some r := H
              have A16 := Aside0.mk A160
              clear A160
              by_cases c17 : t220.size + 1 + t221.size ≤ 9223372036854775807
              · rw [if_pos c17] at H
                have c17b0 := eq_true c17
                have c17b1 : decide (t220.size + 1 + t221.size ≤ 9223372036854775807) = true := decide_eq_true c17
                try have c17b2 : (9223372036854775807 < t220.size + 1 + t221.size) = False := eq_false (Nat.not_lt.2 c17)
                obtain rfl := Option.some.inj H
                go_wp2_with (first | ((with_reducible refine gate_callee (f := 11) rfl ?_); refine goesL_ (some 22) rfl rfl Try.func11 (by kernel_rfl) rfl #[.string ((a0 ++ (⟨#[32]⟩ : ByteArray)) ++ a1), .bool false] rfl (by (try simp only [List.map_toArray, List.map_cons, List.map_nil]); first | done | rfl | (simp only [List.length_drop, List.length_take]; rfl)) ?_; (with_reducible refine (charref_All.calls ((a0 ++ (⟨#[32]⟩ : ByteArray)) ++ a1) false t219 _ A13.out).mono ?_); rintro e w18 ⟨rfl, hb⟩; refine ⟨_, rfl, ?_⟩; have n0_ := Aside0.mk (below_step (by repeat (first | (with_reducible first | exact HB.out | apply below_alloc | apply pw_below_drewN | apply below_drew1) | exact HB.out)) hb); clear HB; have HB := n0_; clear n0_; (try clear hb); (try clear hb2); (try clear hk); (try clear hi)) | ((with_reducible refine gate_callee (f := 11) rfl ?_); refine goesL_ (some 24) rfl rfl Try.func11 (by kernel_rfl) rfl #[.string a0, .bool false] rfl (by (try simp only [List.map_toArray, List.map_cons, List.map_nil]); first | done | rfl | (simp only [List.length_drop, List.length_take]; rfl)) ?_; (with_reducible refine (charref_All.calls a0 false t220 _ A14.out).mono ?_); rintro e w19 ⟨rfl, hb⟩; refine ⟨_, rfl, ?_⟩; have n0_ := Aside0.mk (below_step (by repeat (first | (with_reducible first | exact HB.out | apply below_alloc | apply pw_below_drewN | apply below_drew1) | exact HB.out)) hb); clear HB; have HB := n0_; clear n0_; (try clear hb); (try clear hb2); (try clear hk); (try clear hi)) | ((with_reducible refine gate_callee (f := 11) rfl ?_); refine goesL_ (some 27) rfl rfl Try.func11 (by kernel_rfl) rfl #[.string a1, .bool false] rfl (by (try simp only [List.map_toArray, List.map_cons, List.map_nil]); first | done | rfl | (simp only [List.length_drop, List.length_take]; rfl)) ?_; (with_reducible refine (charref_All.calls a1 false t221 _ A16.out).mono ?_); rintro e w20 ⟨rfl, hb⟩; refine ⟨_, rfl, ?_⟩; have n0_ := Aside0.mk (below_step (by repeat (first | (with_reducible first | exact HB.out | apply below_alloc | apply pw_below_drewN | apply below_drew1) | exact HB.out)) hb); clear HB; have HB := n0_; clear n0_; (try clear hb); (try clear hb2); (try clear hk); (try clear hi)))
                go_ret
                exact ⟨by first | rfl | (simp [errW_none, errW_some] <;> rfl) | (simp [*, errW_none, errW_some] <;> rfl), by repeat (first | (with_reducible first | exact HB.out | apply below_alloc | apply pw_below_drewN | apply below_drew1) | exact HB.out)⟩
              · rw [if_neg c17] at H
                exact absurd H (by simp)
            · rw [if_neg c15] at H
              exact absurd H (by simp)
          · rw [if_neg c12] at H
            exact absurd H (by simp)
        · rw [if_neg c11] at H
          exact absurd H (by simp)

/-- THE ONE PURE STATEMENT of portierelaw04_CharrefParts: yours. -/
def portierelaw04_CharrefParts.Pure : Prop := ∀ (a0 : ByteArray) (a1 : ByteArray), a0.size ≤ 140737488351232 → a1.size ≤ 140737488351232 → ∃ k, portierelaw04_CharrefParts.f k a0 a1 = some true
theorem portierelaw04_CharrefParts.walk (P : portierelaw04_CharrefParts.Pure) (a0 : ByteArray) (a1 : ByteArray) (w : World) (w0 : a0.size ≤ 140737488351232) (w1 : a1.size ≤ 140737488351232) :
    Calls Try.prog 3 #[.string a0, .string a1] w fun e w' => e = .returned (.bool true) ∧ Below w.heap.size w w' := by
  obtain ⟨k, h⟩ := P a0 a1 w0 w1
  refine (portierelaw04_CharrefParts.calls k a0 a1 true w h).mono ?_
  rintro e w' ⟨rfl, hd⟩
  exact ⟨rfl, hd⟩

end Go.Proofs.Ytijjfkjihifjpaa.P
