-- Written by wip/tools/gprint.py of this session, over the kit's print. Lean checks it.
import Derived.Test.YtebcdfdkgjcmmaaPx0
import Derived.Test.YtebcdfdkgjcmmaaPx1
import Derived.Test.YtebcdfdkgjcmmaaPx2
namespace Go.Proofs.Ytebcdfdkgjcmmaa.P
open Go.Proofs.Ytebcdfdkgjcmmaa.Hand
open Go.RowKit Go.Proofs.YtebcdfdkgjcmmaaW.PrintWords Go.Proofs.YtebcdfdkgjcmmaaW.PrintLast Go.Proofs.YtebcdfdkgjcmmaaW.PrintMore
attribute [local go_sem] max2_int min2_int max_two min_two max_three min_three max_four min_four   -- for this text's walks alone
attribute [local go_sem] Go.IntKind.wrap_u32
set_option linter.unusedVariables false
set_option linter.unusedSimpArgs false

/-! ### portierelaw05_known: function 8 -/
def portierelaw05_known.f  : Option (Bool) := (escape_Text.f (⟨#[97, 60, 98, 38]⟩ : ByteArray)).bind fun t101 => (if t101.toList = ([97, 38, 108, 116, 59, 98, 38, 97, 109, 112, 59] : List UInt8) then ((escape_Value.f (⟨#[34]⟩ : ByteArray)).bind fun t102 => (if t102.toList = ([38, 113, 117, 111, 116, 59] : List UInt8) then ((escape_Text.f (⟨#[194, 160]⟩ : ByteArray)).bind fun t103 => (some (t103.toList == ([38, 110, 98, 115, 112, 59] : List UInt8)))) else (some false))) else (some false))
set_option maxHeartbeats 8000000 in
set_option maxRecDepth 100000 in
theorem portierelaw05_known.calls  (r : Bool) (w : World) (h : portierelaw05_known.f  = some r) :
    Calls Try.prog 8 #[] w fun e w' => e = .returned (.bool r) ∧ Below w.heap.size w w' := by
  have HB := Aside0.mk (Below.refl w.heap.size w)
  have H : ((escape_Text.f (⟨#[97, 60, 98, 38]⟩ : ByteArray)).bind fun t101 => (if t101.toList = ([97, 38, 108, 116, 59, 98, 38, 97, 109, 112, 59] : List UInt8) then ((escape_Value.f (⟨#[34]⟩ : ByteArray)).bind fun t102 => (if t102.toList = ([38, 113, 117, 111, 116, 59] : List UInt8) then ((escape_Text.f (⟨#[194, 160]⟩ : ByteArray)).bind fun t103 => (some (t103.toList == ([38, 110, 98, 115, 112, 59] : List UInt8)))) else (some false))) else (some false))) = some r := h
  clear h
  replace H := Option.bind_eq_some_iff.mp H
  obtain ⟨t101, A10, H⟩ := H
  replace H : (if t101.toList = ([97, 38, 108, 116, 59, 98, 38, 97, 109, 112, 59] : List UInt8) then ((escape_Value.f (⟨#[34]⟩ : ByteArray)).bind fun t102 => (if t102.toList = ([38, 113, 117, 111, 116, 59] : List UInt8) then ((escape_Text.f (⟨#[194, 160]⟩ : ByteArray)).bind fun t103 => (some (t103.toList == ([38, 110, 98, 115, 112, 59] : List UInt8)))) else (some false))) else (some false)) = some r := H
  have A1 := Aside0.mk A10
  clear A10
  by_cases c2 : t101.toList = ([97, 38, 108, 116, 59, 98, 38, 97, 109, 112, 59] : List UInt8)
  · rw [if_pos c2] at H
    have c2b0 : (t101.toList == ([97, 38, 108, 116, 59, 98, 38, 97, 109, 112, 59] : List UInt8)) = true := beq_iff_eq.mpr c2
    have c2b1 : (t101.toList != ([97, 38, 108, 116, 59, 98, 38, 97, 109, 112, 59] : List UInt8)) = false := bne_eq_false_iff_eq.mpr c2
    clear c2
    replace H := Option.bind_eq_some_iff.mp H
    obtain ⟨t102, A30, H⟩ := H
    replace H : (if t102.toList = ([38, 113, 117, 111, 116, 59] : List UInt8) then ((escape_Text.f (⟨#[194, 160]⟩ : ByteArray)).bind fun t103 => (some (t103.toList == ([38, 110, 98, 115, 112, 59] : List UInt8)))) else (some false)) = some r := H
    have A3 := Aside0.mk A30
    clear A30
    by_cases c4 : t102.toList = ([38, 113, 117, 111, 116, 59] : List UInt8)
    · rw [if_pos c4] at H
      have c4b0 : (t102.toList == ([38, 113, 117, 111, 116, 59] : List UInt8)) = true := beq_iff_eq.mpr c4
      have c4b1 : (t102.toList != ([38, 113, 117, 111, 116, 59] : List UInt8)) = false := bne_eq_false_iff_eq.mpr c4
      clear c4
      replace H := Option.bind_eq_some_iff.mp H
      obtain ⟨t103, A50, H⟩ := H
      replace H : (some (t103.toList == ([38, 110, 98, 115, 112, 59] : List UInt8))) = some r := H
      have A5 := Aside0.mk A50
      clear A50
      obtain rfl := Option.some.inj H
      go_enter Try.func8, Try.ntmps8
      go_wp2_with (first | ((with_reducible refine gate_callee (f := 9) rfl ?_); refine goesL_ (some 1) rfl rfl Try.func9 (by kernel_rfl) rfl #[.string (⟨#[97, 60, 98, 38]⟩ : ByteArray)] rfl (by (try simp only [List.map_toArray, List.map_cons, List.map_nil]); first | done | rfl | (simp only [List.length_drop, List.length_take]; rfl)) ?_; (with_reducible refine (escape_Text.calls (⟨#[97, 60, 98, 38]⟩ : ByteArray) t101 _ A1.out).mono ?_); rintro e w6 ⟨rfl, hb⟩; refine ⟨_, rfl, ?_⟩; have n0_ := Aside0.mk (below_step (by repeat (first | (with_reducible first | exact HB.out | apply below_alloc | apply pw_below_drewN | apply below_drew1) | exact HB.out)) hb); clear HB; have HB := n0_; clear n0_; (try clear hb); (try clear hb2); (try clear hk); (try clear hi)) | (go_at_call 10; (with_reducible refine (escape_Value.calls (⟨#[34]⟩ : ByteArray) t102 _ A3.out).mono ?_); rintro e w7 ⟨rfl, hb⟩; have n0_ := Aside0.mk (below_step (by repeat (first | (with_reducible first | exact HB.out | apply below_alloc | apply pw_below_drewN | apply below_drew1) | exact HB.out)) hb); clear HB; have HB := n0_; clear n0_; (try clear hb); (try clear hb2); (try clear hk); (try clear hi)) | (go_at_call 9; (with_reducible refine (escape_Text.calls (⟨#[194, 160]⟩ : ByteArray) t103 _ A5.out).mono ?_); rintro e w8 ⟨rfl, hb⟩; have n0_ := Aside0.mk (below_step (by repeat (first | (with_reducible first | exact HB.out | apply below_alloc | apply pw_below_drewN | apply below_drew1) | exact HB.out)) hb); clear HB; have HB := n0_; clear n0_; (try clear hb); (try clear hb2); (try clear hk); (try clear hi)))
      go_ret
      exact ⟨by first | rfl | (simp [errW_none, errW_some] <;> rfl) | (simp [*, errW_none, errW_some] <;> rfl), by repeat (first | (with_reducible first | exact HB.out | apply below_alloc | apply pw_below_drewN | apply below_drew1) | exact HB.out)⟩
    · rw [if_neg c4] at H
      have c4b0 : (t102.toList == ([38, 113, 117, 111, 116, 59] : List UInt8)) = false := beq_eq_false_iff_ne.mpr c4
      have c4b1 : (t102.toList != ([38, 113, 117, 111, 116, 59] : List UInt8)) = true := bne_iff_ne.mpr c4
      obtain rfl := Option.some.inj H
      go_enter Try.func8, Try.ntmps8
      go_wp2_with (first | ((with_reducible refine gate_callee (f := 9) rfl ?_); refine goesL_ (some 1) rfl rfl Try.func9 (by kernel_rfl) rfl #[.string (⟨#[97, 60, 98, 38]⟩ : ByteArray)] rfl (by (try simp only [List.map_toArray, List.map_cons, List.map_nil]); first | done | rfl | (simp only [List.length_drop, List.length_take]; rfl)) ?_; (with_reducible refine (escape_Text.calls (⟨#[97, 60, 98, 38]⟩ : ByteArray) t101 _ A1.out).mono ?_); rintro e w9 ⟨rfl, hb⟩; refine ⟨_, rfl, ?_⟩; have n0_ := Aside0.mk (below_step (by repeat (first | (with_reducible first | exact HB.out | apply below_alloc | apply pw_below_drewN | apply below_drew1) | exact HB.out)) hb); clear HB; have HB := n0_; clear n0_; (try clear hb); (try clear hb2); (try clear hk); (try clear hi)) | (go_at_call 10; (with_reducible refine (escape_Value.calls (⟨#[34]⟩ : ByteArray) t102 _ A3.out).mono ?_); rintro e w10 ⟨rfl, hb⟩; have n0_ := Aside0.mk (below_step (by repeat (first | (with_reducible first | exact HB.out | apply below_alloc | apply pw_below_drewN | apply below_drew1) | exact HB.out)) hb); clear HB; have HB := n0_; clear n0_; (try clear hb); (try clear hb2); (try clear hk); (try clear hi)))
      go_ret
      exact ⟨by first | rfl | (simp [errW_none, errW_some] <;> rfl) | (simp [*, errW_none, errW_some] <;> rfl), by repeat (first | (with_reducible first | exact HB.out | apply below_alloc | apply pw_below_drewN | apply below_drew1) | exact HB.out)⟩
  · rw [if_neg c2] at H
    have c2b0 : (t101.toList == ([97, 38, 108, 116, 59, 98, 38, 97, 109, 112, 59] : List UInt8)) = false := beq_eq_false_iff_ne.mpr c2
    have c2b1 : (t101.toList != ([97, 38, 108, 116, 59, 98, 38, 97, 109, 112, 59] : List UInt8)) = true := bne_iff_ne.mpr c2
    obtain rfl := Option.some.inj H
    go_enter Try.func8, Try.ntmps8
    go_wp2_with (first | ((with_reducible refine gate_callee (f := 9) rfl ?_); refine goesL_ (some 1) rfl rfl Try.func9 (by kernel_rfl) rfl #[.string (⟨#[97, 60, 98, 38]⟩ : ByteArray)] rfl (by (try simp only [List.map_toArray, List.map_cons, List.map_nil]); first | done | rfl | (simp only [List.length_drop, List.length_take]; rfl)) ?_; (with_reducible refine (escape_Text.calls (⟨#[97, 60, 98, 38]⟩ : ByteArray) t101 _ A1.out).mono ?_); rintro e w11 ⟨rfl, hb⟩; refine ⟨_, rfl, ?_⟩; have n0_ := Aside0.mk (below_step (by repeat (first | (with_reducible first | exact HB.out | apply below_alloc | apply pw_below_drewN | apply below_drew1) | exact HB.out)) hb); clear HB; have HB := n0_; clear n0_; (try clear hb); (try clear hb2); (try clear hk); (try clear hi)))
    go_ret
    exact ⟨by first | rfl | (simp [errW_none, errW_some] <;> rfl) | (simp [*, errW_none, errW_some] <;> rfl), by repeat (first | (with_reducible first | exact HB.out | apply below_alloc | apply pw_below_drewN | apply below_drew1) | exact HB.out)⟩

/-! ### portiereref05_written: function 16 -/
mutual
def portiereref05_written.l0 : Nat → ByteArray → Bool → ByteArray → Int → Option (ByteArray)
  | 0, _, _, _, _ => none
  | k + 1, x0, x1, x5, x6 => if x6 < (x0.size : Int) then (if 0 ≤ x6 then (if x6 ≤ (wrap64 (x6 + 1)) then (if (wrap64 (x6 + 1)) ≤ (x0.size : Int) then (if (bt x0 x6) = 38 then (if x5.size + 5 ≤ 9223372036854775807 then (portiereref05_written.l0 k x0 x1 (x5 ++ (⟨#[38, 97, 109, 112, 59]⟩ : ByteArray)) (wrap64 (x6 + 1))) else (none)) else (if (bt x0 x6) = 60 then (if x5.size + 4 ≤ 9223372036854775807 then (portiereref05_written.l0 k x0 x1 (x5 ++ (⟨#[38, 108, 116, 59]⟩ : ByteArray)) (wrap64 (x6 + 1))) else (none)) else (if (bt x0 x6) = 62 then (if x5.size + 4 ≤ 9223372036854775807 then (portiereref05_written.l0 k x0 x1 (x5 ++ (⟨#[38, 103, 116, 59]⟩ : ByteArray)) (wrap64 (x6 + 1))) else (none)) else (if (bt x0 x6) = 34 then (portiereref05_written.j1 k x0 x1 x5 x6 1 (x0.extract (x6 : Int).toNat ((wrap64 (x6 + 1)) : Int).toNat) x1) else (portiereref05_written.j1 k x0 x1 x5 x6 1 (x0.extract (x6 : Int).toNat ((wrap64 (x6 + 1)) : Int).toNat) false))))) else (none)) else (none)) else (none)) else (some x5)
def portiereref05_written.j1 : Nat → ByteArray → Bool → ByteArray → Int → Int → ByteArray → Bool → Option (ByteArray)
  | 0, _, _, _, _, _, _, _ => none
  | k + 1, x0, x1, x5, x6, x7, x8, x33 => if x33 = true then (if x5.size + 6 ≤ 9223372036854775807 then (portiereref05_written.l0 k x0 x1 (x5 ++ (⟨#[38, 113, 117, 111, 116, 59]⟩ : ByteArray)) (wrap64 (x6 + x7))) else (none)) else (if 0 ≤ x6 then (if x6 < (x0.size : Int) then (if (bt x0 x6) = 194 then (if (wrap64 (x6 + 1)) < (x0.size : Int) then (if 0 ≤ (wrap64 (x6 + 1)) then (if (bt x0 (wrap64 (x6 + 1))) = 160 then (if x5.size + 6 ≤ 9223372036854775807 then (portiereref05_written.l0 k x0 x1 (x5 ++ (⟨#[38, 110, 98, 115, 112, 59]⟩ : ByteArray)) (wrap64 (x6 + 2))) else (none)) else (if x5.size + x8.size ≤ 9223372036854775807 then (portiereref05_written.l0 k x0 x1 (x5 ++ x8) (wrap64 (x6 + x7))) else (none))) else (none)) else (if x5.size + x8.size ≤ 9223372036854775807 then (portiereref05_written.l0 k x0 x1 (x5 ++ x8) (wrap64 (x6 + x7))) else (none))) else (if x5.size + x8.size ≤ 9223372036854775807 then (portiereref05_written.l0 k x0 x1 (x5 ++ x8) (wrap64 (x6 + x7))) else (none))) else (none)) else (none))
end
def portiereref05_written.f (k : Nat) (a0 : ByteArray) (a1 : Bool) : Option (ByteArray) := portiereref05_written.l0 k a0 a1 (⟨#[]⟩ : ByteArray) 0
theorem portiereref05_written.mono_l : ∀ k, (∀ y0 y1 y2 y3, LeO (portiereref05_written.l0 k y0 y1 y2 y3) (portiereref05_written.l0 (k + 1) y0 y1 y2 y3)) ∧ (∀ y0 y1 y2 y3 y4 y5 y6, LeO (portiereref05_written.j1 k y0 y1 y2 y3 y4 y5 y6) (portiereref05_written.j1 (k + 1) y0 y1 y2 y3 y4 y5 y6))
  | 0 => ⟨fun _ _ _ _ r h => by simp [portiereref05_written.l0] at h, fun _ _ _ _ _ _ _ r h => by simp [portiereref05_written.j1] at h⟩
  | k + 1 => by
    obtain ⟨ih0, ih1⟩ := portiereref05_written.mono_l k
    refine ⟨?_, ?_⟩
    · intro y0 y1 y2 y3
      unfold portiereref05_written.l0
      repeat' first
      | (with_reducible exact ih0 _ _ _ _)
      | (with_reducible exact ih1 _ _ _ _ _ _ _)
      | (with_reducible exact LeO.refl _)
      | (with_reducible exact LeO.none _)
      | (with_reducible refine LeO.ite ?_ ?_)
      | (with_reducible refine LeO.bind ?_ (fun _ => ?_))
      | exact ih0 _ _ _ _
      | exact ih1 _ _ _ _ _ _ _
      | exact LeO.none _
      | refine LeO.ite ?_ ?_
      | refine LeO.bind ?_ (fun _ => ?_)
    · intro y0 y1 y2 y3 y4 y5 y6
      unfold portiereref05_written.j1
      repeat' first
      | (with_reducible exact ih0 _ _ _ _)
      | (with_reducible exact ih1 _ _ _ _ _ _ _)
      | (with_reducible exact LeO.refl _)
      | (with_reducible exact LeO.none _)
      | (with_reducible refine LeO.ite ?_ ?_)
      | (with_reducible refine LeO.bind ?_ (fun _ => ?_))
      | exact ih0 _ _ _ _
      | exact ih1 _ _ _ _ _ _ _
      | exact LeO.none _
      | refine LeO.ite ?_ ?_
      | refine LeO.bind ?_ (fun _ => ?_)
theorem portiereref05_written.mono : ∀ a0 a1 k, LeO (portiereref05_written.f k a0 a1) (portiereref05_written.f (k + 1) a0 a1) := by
  intro a0 a1 k
  obtain ⟨ih0, ih1⟩ := portiereref05_written.mono_l k
  unfold portiereref05_written.f
  repeat' first
      | (with_reducible exact ih0 _ _ _ _)
      | (with_reducible exact ih1 _ _ _ _ _ _ _)
      | (with_reducible exact LeO.refl _)
      | (with_reducible exact LeO.none _)
      | (with_reducible refine LeO.ite ?_ ?_)
      | (with_reducible refine LeO.bind ?_ (fun _ => ?_))
      | exact ih0 _ _ _ _
      | exact ih1 _ _ _ _ _ _ _
      | exact LeO.none _
      | refine LeO.ite ?_ ?_
      | refine LeO.bind ?_ (fun _ => ?_)
set_option maxHeartbeats 8000000 in
set_option maxRecDepth 100000 in
theorem portiereref05_written.calls (k : Nat) (a0 : ByteArray) (a1 : Bool) (r : ByteArray) (w : World) (h : portiereref05_written.f k a0 a1 = some r) :
    Calls Try.prog 16 #[.string a0, .bool a1] w fun e w' => e = .returned (.string r) ∧ Drawn0 w w' := by
  have H : (portiereref05_written.l0 k a0 a1 (⟨#[]⟩ : ByteArray) 0) = some r := h
  clear h
  have H' := Aside0.mk H
  clear H
  go_enter Try.func16, Try.ntmps16
  go_wp2
  go_loopg [5, 6] k (fun kq v5 v6 w' => ∃ (x5_1 : ByteArray) (x6_1 : Int), v5 = .string x5_1 ∧ v6 = .int .i64 x6_1 ∧ Aside0 (portiereref05_written.l0 kq a0 a1 x5_1 x6_1 = some r) ∧ Aside0 (kq ≤ k) ∧ Drawn0 w w')
  case atStart => exact ⟨((⟨#[]⟩ : ByteArray)), (0), (by first | rfl | (simp; done) | (simp [*]; done)), (by first | rfl | (simp; done) | (simp [*]; done)), H', ⟨Nat.le_refl _⟩, by repeat (first | exact Drawn0.refl _ | apply Drawn0.step)⟩
  case round =>
    clear H'
    try clear c1
    try clear p2
    obtain ⟨x5_1, x6_1, rfl, rfl, HA, HK1, ⟨m1, rfl⟩⟩ := hrel
    cases gk with
    | zero => exact absurd HA.out (by simp [portiereref05_written.l0])
    | succ k1 =>
      have H := HA.out
      clear HA
      simp only [portiereref05_written.l0] at H
      by_cases c3 : x6_1 < (a0.size : Int)
      · rw [if_pos c3] at H
        have c3b0 : decide (x6_1 < (a0.size : Int)) = true := decide_eq_true c3
        clear c3
        by_cases c4 : 0 ≤ x6_1
        · rw [if_pos c4] at H
          have c4b0 := eq_true c4
          have c4b1 : decide (0 ≤ x6_1) = true := decide_eq_true c4
          clear c4
          by_cases c5 : x6_1 ≤ (wrap64 (x6_1 + 1))
          · rw [if_pos c5] at H
            have c5b0 := eq_true c5
            have c5b1 : decide (x6_1 ≤ (wrap64 (x6_1 + 1))) = true := decide_eq_true c5
            by_cases c6 : (wrap64 (x6_1 + 1)) ≤ (a0.size : Int)
            · rw [if_pos c6] at H
              have c6b0 := eq_true c6
              have c6b1 : decide ((wrap64 (x6_1 + 1)) ≤ (a0.size : Int)) = true := decide_eq_true c6
              by_cases c8 : (bt a0 x6_1) = 38
              · rw [if_pos c8] at H
                have c8b0 : ((bt a0 x6_1) == 38) = true := beq_iff_eq.mpr c8
                have c8b1 : ((bt a0 x6_1) != 38) = false := bne_eq_false_iff_eq.mpr c8
                clear c8
                by_cases c9 : x5_1.size + 5 ≤ 9223372036854775807
                · rw [if_pos c9] at H
                  have c9b0 := eq_true c9
                  have c9b1 : decide (x5_1.size + 5 ≤ 9223372036854775807) = true := decide_eq_true c9
                  try have c9b2 : (9223372036854775807 < x5_1.size + 5) = False := eq_false (Nat.not_lt.2 c9)
                  have H' := Aside0.mk H
                  clear H
                  have p7 : 0 ≤ (x6_1 : Int) := of_decide_eq_true (by first | (with_reducible assumption) | assumption)
                  have q7 : x6_1 < (a0.size : Int) := of_decide_eq_true (by first | (with_reducible assumption) | assumption)
                  have hx7 := bt_at a0 x6_1
                  replace p7 := eq_true p7
                  replace q7 := eq_true q7
                  go_wp2
                  go_roundg k1
                  case measure => have := HK1.out; omega
                  case rel => exact ⟨(x5_1 ++ (⟨#[38, 97, 109, 112, 59]⟩ : ByteArray)), (wrap64 (x6_1 + 1)), (by first | rfl | (simp; done) | (simp [*]; done)), (by first | rfl | (simp; done) | (simp [*]; done)), H', ⟨by have := HK1.out; omega⟩, by repeat (first | exact Drawn0.refl _ | apply Drawn0.step)⟩
                · rw [if_neg c9] at H
                  exact absurd H (by simp)
              · rw [if_neg c8] at H
                have c8b0 : ((bt a0 x6_1) == 38) = false := beq_eq_false_iff_ne.mpr c8
                have c8b1 : ((bt a0 x6_1) != 38) = true := bne_iff_ne.mpr c8
                by_cases c11 : (bt a0 x6_1) = 60
                · rw [if_pos c11] at H
                  have c11b0 : ((bt a0 x6_1) == 60) = true := beq_iff_eq.mpr c11
                  have c11b1 : ((bt a0 x6_1) != 60) = false := bne_eq_false_iff_eq.mpr c11
                  clear c11
                  by_cases c12 : x5_1.size + 4 ≤ 9223372036854775807
                  · rw [if_pos c12] at H
                    have c12b0 := eq_true c12
                    have c12b1 : decide (x5_1.size + 4 ≤ 9223372036854775807) = true := decide_eq_true c12
                    try have c12b2 : (9223372036854775807 < x5_1.size + 4) = False := eq_false (Nat.not_lt.2 c12)
                    have H' := Aside0.mk H
                    clear H
                    have p7 : 0 ≤ (x6_1 : Int) := of_decide_eq_true (by first | (with_reducible assumption) | assumption)
                    have q7 : x6_1 < (a0.size : Int) := of_decide_eq_true (by first | (with_reducible assumption) | assumption)
                    have hx7 := bt_at a0 x6_1
                    replace p7 := eq_true p7
                    replace q7 := eq_true q7
                    have p10 : 0 ≤ (x6_1 : Int) := of_decide_eq_true (by first | (with_reducible assumption) | assumption)
                    have q10 : x6_1 < (a0.size : Int) := of_decide_eq_true (by first | (with_reducible assumption) | assumption)
                    have hx10 := bt_at a0 x6_1
                    replace p10 := eq_true p10
                    replace q10 := eq_true q10
                    go_wp2
                    go_roundg k1
                    case measure => have := HK1.out; omega
                    case rel => exact ⟨(x5_1 ++ (⟨#[38, 108, 116, 59]⟩ : ByteArray)), (wrap64 (x6_1 + 1)), (by first | rfl | (simp; done) | (simp [*]; done)), (by first | rfl | (simp; done) | (simp [*]; done)), H', ⟨by have := HK1.out; omega⟩, by repeat (first | exact Drawn0.refl _ | apply Drawn0.step)⟩
                  · rw [if_neg c12] at H
                    exact absurd H (by simp)
                · rw [if_neg c11] at H
                  have c11b0 : ((bt a0 x6_1) == 60) = false := beq_eq_false_iff_ne.mpr c11
                  have c11b1 : ((bt a0 x6_1) != 60) = true := bne_iff_ne.mpr c11
                  by_cases c14 : (bt a0 x6_1) = 62
                  · rw [if_pos c14] at H
                    have c14b0 : ((bt a0 x6_1) == 62) = true := beq_iff_eq.mpr c14
                    have c14b1 : ((bt a0 x6_1) != 62) = false := bne_eq_false_iff_eq.mpr c14
                    clear c14
                    by_cases c15 : x5_1.size + 4 ≤ 9223372036854775807
                    · rw [if_pos c15] at H
                      have c15b0 := eq_true c15
                      have c15b1 : decide (x5_1.size + 4 ≤ 9223372036854775807) = true := decide_eq_true c15
                      try have c15b2 : (9223372036854775807 < x5_1.size + 4) = False := eq_false (Nat.not_lt.2 c15)
                      have H' := Aside0.mk H
                      clear H
                      have p7 : 0 ≤ (x6_1 : Int) := of_decide_eq_true (by first | (with_reducible assumption) | assumption)
                      have q7 : x6_1 < (a0.size : Int) := of_decide_eq_true (by first | (with_reducible assumption) | assumption)
                      have hx7 := bt_at a0 x6_1
                      replace p7 := eq_true p7
                      replace q7 := eq_true q7
                      have p10 : 0 ≤ (x6_1 : Int) := of_decide_eq_true (by first | (with_reducible assumption) | assumption)
                      have q10 : x6_1 < (a0.size : Int) := of_decide_eq_true (by first | (with_reducible assumption) | assumption)
                      have hx10 := bt_at a0 x6_1
                      replace p10 := eq_true p10
                      replace q10 := eq_true q10
                      have p13 : 0 ≤ (x6_1 : Int) := of_decide_eq_true (by first | (with_reducible assumption) | assumption)
                      have q13 : x6_1 < (a0.size : Int) := of_decide_eq_true (by first | (with_reducible assumption) | assumption)
                      have hx13 := bt_at a0 x6_1
                      replace p13 := eq_true p13
                      replace q13 := eq_true q13
                      go_wp2
                      go_roundg k1
                      case measure => have := HK1.out; omega
                      case rel => exact ⟨(x5_1 ++ (⟨#[38, 103, 116, 59]⟩ : ByteArray)), (wrap64 (x6_1 + 1)), (by first | rfl | (simp; done) | (simp [*]; done)), (by first | rfl | (simp; done) | (simp [*]; done)), H', ⟨by have := HK1.out; omega⟩, by repeat (first | exact Drawn0.refl _ | apply Drawn0.step)⟩
                    · rw [if_neg c15] at H
                      exact absurd H (by simp)
                  · rw [if_neg c14] at H
                    have c14b0 : ((bt a0 x6_1) == 62) = false := beq_eq_false_iff_ne.mpr c14
                    have c14b1 : ((bt a0 x6_1) != 62) = true := bne_iff_ne.mpr c14
                    have HC16 := Aside0.mk H
                    clear H
                    have p7 : 0 ≤ (x6_1 : Int) := of_decide_eq_true (by first | (with_reducible assumption) | assumption)
                    have q7 : x6_1 < (a0.size : Int) := of_decide_eq_true (by first | (with_reducible assumption) | assumption)
                    have hx7 := bt_at a0 x6_1
                    replace p7 := eq_true p7
                    replace q7 := eq_true q7
                    have p10 : 0 ≤ (x6_1 : Int) := of_decide_eq_true (by first | (with_reducible assumption) | assumption)
                    have q10 : x6_1 < (a0.size : Int) := of_decide_eq_true (by first | (with_reducible assumption) | assumption)
                    have hx10 := bt_at a0 x6_1
                    replace p10 := eq_true p10
                    replace q10 := eq_true q10
                    have p13 : 0 ≤ (x6_1 : Int) := of_decide_eq_true (by first | (with_reducible assumption) | assumption)
                    have q13 : x6_1 < (a0.size : Int) := of_decide_eq_true (by first | (with_reducible assumption) | assumption)
                    have hx13 := bt_at a0 x6_1
                    replace p13 := eq_true p13
                    replace q13 := eq_true q13
                    go_upto_region 12 with (fail)
                    go_cut [33] (fun v33 wc => ∃ (kq : Nat) (x33_15 : Bool), v33 = .bool x33_15 ∧ Aside0 (portiereref05_written.j1 kq a0 a1 x5_1 x6_1 1 (a0.extract (x6_1 : Int).toNat ((wrap64 (x6_1 + 1)) : Int).toNat) x33_15 = some r) ∧ Aside0 (kq ≤ k1) ∧ Drawn0 w wc)
                    case first =>
                      have H := HC16.out
                      clear HC16
                      by_cases c18 : (bt a0 x6_1) = 34
                      · rw [if_pos c18] at H
                        have c18b0 : ((bt a0 x6_1) == 34) = true := beq_iff_eq.mpr c18
                        have c18b1 : ((bt a0 x6_1) != 34) = false := bne_eq_false_iff_eq.mpr c18
                        clear c18
                        (first | rw [c18b0] | (simp only [i64_w, i32_w]; rw [c18b0]) | skip)
                        have H' := Aside0.mk H
                        clear H
                        have p17 : 0 ≤ (x6_1 : Int) := of_decide_eq_true (by first | (with_reducible assumption) | assumption)
                        have q17 : x6_1 < (a0.size : Int) := of_decide_eq_true (by first | (with_reducible assumption) | assumption)
                        have hx17 := bt_at a0 x6_1
                        replace p17 := eq_true p17
                        replace q17 := eq_true q17
                        go_wp2
                        go_meet
                        case rel => exact ⟨_, (a1), (by first | rfl | (simp; done) | (simp [*]; done)), H', ⟨by have := HK1.out; first | omega | exact Nat.le_refl _⟩, by repeat (first | exact Drawn0.refl _ | apply Drawn0.step)⟩
                      · rw [if_neg c18] at H
                        have c18b0 : ((bt a0 x6_1) == 34) = false := beq_eq_false_iff_ne.mpr c18
                        have c18b1 : ((bt a0 x6_1) != 34) = true := bne_iff_ne.mpr c18
                        (first | rw [c18b0] | (simp only [i64_w, i32_w]; rw [c18b0]) | skip)
                        have H' := Aside0.mk H
                        clear H
                        have p17 : 0 ≤ (x6_1 : Int) := of_decide_eq_true (by first | (with_reducible assumption) | assumption)
                        have q17 : x6_1 < (a0.size : Int) := of_decide_eq_true (by first | (with_reducible assumption) | assumption)
                        have hx17 := bt_at a0 x6_1
                        replace p17 := eq_true p17
                        replace q17 := eq_true q17
                        go_wp2
                        go_meet
                        case rel => exact ⟨_, (false), (by first | rfl | (simp; done) | (simp [*]; done)), H', ⟨by have := HK1.out; first | omega | exact Nat.le_refl _⟩, by repeat (first | exact Drawn0.refl _ | apply Drawn0.step)⟩
                    case rest =>
                      clear HC16
                      try clear c1
                      try clear p1
                      try clear q1
                      try clear hx1
                      try clear p2
                      try clear c3
                      try clear c3b0
                      try clear c4
                      try clear c4b0
                      try clear c4b1
                      try clear c5
                      try clear c5b0
                      try clear c5b1
                      try clear c6
                      try clear c6b0
                      try clear c6b1
                      try clear p6
                      try clear p7
                      try clear q7
                      try clear hx7
                      try clear c8
                      try clear c8b0
                      try clear c8b1
                      try clear c9
                      try clear c9b0
                      try clear c9b1
                      try clear c9b2
                      try clear p10
                      try clear q10
                      try clear hx10
                      try clear c11
                      try clear c11b0
                      try clear c11b1
                      try clear c12
                      try clear c12b0
                      try clear c12b1
                      try clear c12b2
                      try clear p13
                      try clear q13
                      try clear hx13
                      try clear c14
                      try clear c14b0
                      try clear c14b1
                      try clear c15
                      try clear c15b0
                      try clear c15b1
                      try clear c15b2
                      try clear c16
                      try clear p17
                      try clear q17
                      try clear hx17
                      try clear c18
                      try clear c18b0
                      try clear c18b1
                      try clear p10
                      try clear p13
                      try clear p17
                      try clear p2
                      try clear p7
                      try clear q10
                      try clear q13
                      try clear q17
                      try clear q7
                      obtain ⟨kq, x33_15, rfl, HA, HJ15, ⟨mc15, rfl⟩⟩ := hcut
                      cases kq with
                      | zero => exact absurd HA.out (by simp [portiereref05_written.j1])
                      | succ kj15 =>
                        have H := HA.out
                        clear HA
                        simp only [portiereref05_written.j1] at H
                        by_cases c19 : x33_15 = true
                        · subst c19
                          have H1 : (if x5_1.size + 6 ≤ 9223372036854775807 then (portiereref05_written.l0 kj15 a0 a1 (x5_1 ++ (⟨#[38, 113, 117, 111, 116, 59]⟩ : ByteArray)) (wrap64 (x6_1 + 1))) else (none)) = some r := by rw [if_pos rfl] at H; exact H
                          clear H
                          have H := H1
                          clear H1
                          by_cases c20 : x5_1.size + 6 ≤ 9223372036854775807
                          · rw [if_pos c20] at H
                            have c20b0 := eq_true c20
                            have c20b1 : decide (x5_1.size + 6 ≤ 9223372036854775807) = true := decide_eq_true c20
                            try have c20b2 : (9223372036854775807 < x5_1.size + 6) = False := eq_false (Nat.not_lt.2 c20)
                            have H' := Aside0.mk H
                            clear H
                            go_wp2
                            go_roundg kj15
                            case measure => have := HK1.out; have := HJ15.out; omega
                            case rel => exact ⟨(x5_1 ++ (⟨#[38, 113, 117, 111, 116, 59]⟩ : ByteArray)), (wrap64 (x6_1 + 1)), (by first | rfl | (simp; done) | (simp [*]; done)), (by first | rfl | (simp; done) | (simp [*]; done)), H', ⟨by have := HK1.out; have := HJ15.out; omega⟩, by repeat (first | exact Drawn0.refl _ | apply Drawn0.step)⟩
                          · rw [if_neg c20] at H
                            exact absurd H (by simp)
                        · replace c19 := Bool.eq_false_iff.mpr c19
                          subst c19
                          have H1 : (if 0 ≤ x6_1 then (if x6_1 < (a0.size : Int) then (if (bt a0 x6_1) = 194 then (if (wrap64 (x6_1 + 1)) < (a0.size : Int) then (if 0 ≤ (wrap64 (x6_1 + 1)) then (if (bt a0 (wrap64 (x6_1 + 1))) = 160 then (if x5_1.size + 6 ≤ 9223372036854775807 then (portiereref05_written.l0 kj15 a0 a1 (x5_1 ++ (⟨#[38, 110, 98, 115, 112, 59]⟩ : ByteArray)) (wrap64 (x6_1 + 2))) else (none)) else (if x5_1.size + (a0.extract (x6_1 : Int).toNat ((wrap64 (x6_1 + 1)) : Int).toNat).size ≤ 9223372036854775807 then (portiereref05_written.l0 kj15 a0 a1 (x5_1 ++ (a0.extract (x6_1 : Int).toNat ((wrap64 (x6_1 + 1)) : Int).toNat)) (wrap64 (x6_1 + 1))) else (none))) else (none)) else (if x5_1.size + (a0.extract (x6_1 : Int).toNat ((wrap64 (x6_1 + 1)) : Int).toNat).size ≤ 9223372036854775807 then (portiereref05_written.l0 kj15 a0 a1 (x5_1 ++ (a0.extract (x6_1 : Int).toNat ((wrap64 (x6_1 + 1)) : Int).toNat)) (wrap64 (x6_1 + 1))) else (none))) else (if x5_1.size + (a0.extract (x6_1 : Int).toNat ((wrap64 (x6_1 + 1)) : Int).toNat).size ≤ 9223372036854775807 then (portiereref05_written.l0 kj15 a0 a1 (x5_1 ++ (a0.extract (x6_1 : Int).toNat ((wrap64 (x6_1 + 1)) : Int).toNat)) (wrap64 (x6_1 + 1))) else (none))) else (none)) else (none)) = some r := by rw [if_neg (show ¬ (false = true) by decide)] at H; exact H
                          clear H
                          have H := H1
                          clear H1
                          by_cases c21 : 0 ≤ x6_1
                          · rw [if_pos c21] at H
                            have c21b0 : decide (0 ≤ x6_1) = true := decide_eq_true c21
                            clear c21
                            by_cases c22 : x6_1 < (a0.size : Int)
                            · rw [if_pos c22] at H
                              have c22b0 : decide (x6_1 < (a0.size : Int)) = true := decide_eq_true c22
                              clear c22
                              by_cases c24 : (bt a0 x6_1) = 194
                              · rw [if_pos c24] at H
                                have c24b0 : ((bt a0 x6_1) == 194) = true := beq_iff_eq.mpr c24
                                have c24b1 : ((bt a0 x6_1) != 194) = false := bne_eq_false_iff_eq.mpr c24
                                clear c24
                                by_cases c25 : (wrap64 (x6_1 + 1)) < (a0.size : Int)
                                · rw [if_pos c25] at H
                                  (try (have c25u : (((x6_1 + 1)) < (a0.size : Int)) := by (have h_ := c25; unfold wrap64 at h_; omega)))
                                  (try (have c25ub0 : decide (((x6_1 + 1)) < (a0.size : Int)) = true := decide_eq_true c25u))
                                  (try clear c25u)
                                  have c25b0 : decide ((wrap64 (x6_1 + 1)) < (a0.size : Int)) = true := decide_eq_true c25
                                  clear c25
                                  obtain ⟨ji26, hji26⟩ : ∃ j_ : Int, (wrap64 (x6_1 + 1)) = j_ := ⟨_, rfl⟩
                                  replace H : (if 0 ≤ (ji26) then (if (bt a0 (ji26)) = 160 then (if x5_1.size + 6 ≤ 9223372036854775807 then (portiereref05_written.l0 kj15 a0 a1 (x5_1 ++ (⟨#[38, 110, 98, 115, 112, 59]⟩ : ByteArray)) (wrap64 (x6_1 + 2))) else (none)) else (if x5_1.size + (a0.extract (x6_1 : Int).toNat ((ji26) : Int).toNat).size ≤ 9223372036854775807 then (portiereref05_written.l0 kj15 a0 a1 (x5_1 ++ (a0.extract (x6_1 : Int).toNat ((ji26) : Int).toNat)) ji26) else (none))) else (none)) = some r := by first | (rw [hji26] at H; exact H) | (simp only [hji26] at H ⊢; exact H)
                                  (try rw [hji26] at c5b0)
                                  (try rw [hji26] at c5b1)
                                  (try rw [hji26] at c5)
                                  (try rw [hji26] at c6b0)
                                  (try rw [hji26] at c6b1)
                                  (try rw [hji26] at c6)
                                  (try rw [hji26] at c25b0)
                                  have hji26w : (IntKind.i64.wrap (x6_1 + 1)) = ji26 := (i64_w _).trans hji26
                                  by_cases c27 : 0 ≤ (ji26)
                                  · rw [if_pos c27] at H
                                    have c27b0 : decide (0 ≤ (ji26)) = true := decide_eq_true c27
                                    clear c27
                                    by_cases c29 : (bt a0 (ji26)) = 160
                                    · rw [if_pos c29] at H
                                      have c29b0 : ((bt a0 (ji26)) == 160) = true := beq_iff_eq.mpr c29
                                      have c29b1 : ((bt a0 (ji26)) != 160) = false := bne_eq_false_iff_eq.mpr c29
                                      clear c29
                                      by_cases c30 : x5_1.size + 6 ≤ 9223372036854775807
                                      · rw [if_pos c30] at H
                                        have c30b0 := eq_true c30
                                        have c30b1 : decide (x5_1.size + 6 ≤ 9223372036854775807) = true := decide_eq_true c30
                                        try have c30b2 : (9223372036854775807 < x5_1.size + 6) = False := eq_false (Nat.not_lt.2 c30)
                                        have H' := Aside0.mk H
                                        clear H
                                        have p23 : 0 ≤ (x6_1 : Int) := of_decide_eq_true (by first | (with_reducible assumption) | assumption)
                                        have q23 : x6_1 < (a0.size : Int) := of_decide_eq_true (by first | (with_reducible assumption) | assumption)
                                        have hx23 := bt_at a0 x6_1
                                        replace p23 := eq_true p23
                                        replace q23 := eq_true q23
                                        have p28 : 0 ≤ ((ji26) : Int) := of_decide_eq_true (by first | (with_reducible assumption) | assumption)
                                        have q28 : (ji26) < (a0.size : Int) := of_decide_eq_true (by first | (with_reducible assumption) | assumption)
                                        have hx28 := bt_at a0 (ji26)
                                        replace p28 := eq_true p28
                                        replace q28 := eq_true q28
                                        go_wp2
                                        go_roundg kj15
                                        case measure => have := HK1.out; have := HJ15.out; omega
                                        case rel => exact ⟨(x5_1 ++ (⟨#[38, 110, 98, 115, 112, 59]⟩ : ByteArray)), (wrap64 (x6_1 + 2)), (by first | rfl | (simp; done) | (simp [*]; done)), (by first | rfl | (simp; done) | (simp [*]; done)), H', ⟨by have := HK1.out; have := HJ15.out; omega⟩, by repeat (first | exact Drawn0.refl _ | apply Drawn0.step)⟩
                                      · rw [if_neg c30] at H
                                        exact absurd H (by simp)
                                    · rw [if_neg c29] at H
                                      have c29b0 : ((bt a0 (ji26)) == 160) = false := beq_eq_false_iff_ne.mpr c29
                                      have c29b1 : ((bt a0 (ji26)) != 160) = true := bne_iff_ne.mpr c29
                                      by_cases c31 : x5_1.size + (a0.extract (x6_1 : Int).toNat ((ji26) : Int).toNat).size ≤ 9223372036854775807
                                      · rw [if_pos c31] at H
                                        (try (have c31s := c31; simp only [ByteArray.size_extract, Nat.min_self] at c31s; have c31sb := eq_true c31s; have c31sd := decide_eq_true c31s; clear c31s))
                                        have c31b0 := eq_true c31
                                        have c31b1 : decide (x5_1.size + (a0.extract (x6_1 : Int).toNat ((ji26) : Int).toNat).size ≤ 9223372036854775807) = true := decide_eq_true c31
                                        try have c31b2 : (9223372036854775807 < x5_1.size + (a0.extract (x6_1 : Int).toNat ((ji26) : Int).toNat).size) = False := eq_false (Nat.not_lt.2 c31)
                                        have H' := Aside0.mk H
                                        clear H
                                        have p23 : 0 ≤ (x6_1 : Int) := of_decide_eq_true (by first | (with_reducible assumption) | assumption)
                                        have q23 : x6_1 < (a0.size : Int) := of_decide_eq_true (by first | (with_reducible assumption) | assumption)
                                        have hx23 := bt_at a0 x6_1
                                        replace p23 := eq_true p23
                                        replace q23 := eq_true q23
                                        have p28 : 0 ≤ ((ji26) : Int) := of_decide_eq_true (by first | (with_reducible assumption) | assumption)
                                        have q28 : (ji26) < (a0.size : Int) := of_decide_eq_true (by first | (with_reducible assumption) | assumption)
                                        have hx28 := bt_at a0 (ji26)
                                        replace p28 := eq_true p28
                                        replace q28 := eq_true q28
                                        go_wp2
                                        go_roundg kj15
                                        case measure => have := HK1.out; have := HJ15.out; omega
                                        case rel => exact ⟨(x5_1 ++ (a0.extract (x6_1 : Int).toNat ((ji26) : Int).toNat)), (ji26), (by first | with_reducible rfl | (simp; done) | rfl | (simp only [← hji26] <;> (first | rfl | simp)) | (simp [*]; done)), (by first | with_reducible rfl | (simp; done) | rfl | (simp only [← hji26] <;> (first | rfl | simp)) | (simp [*]; done)), H', ⟨by have := HK1.out; have := HJ15.out; omega⟩, by repeat (first | exact Drawn0.refl _ | apply Drawn0.step)⟩
                                      · rw [if_neg c31] at H
                                        exact absurd H (by simp)
                                  · rw [if_neg c27] at H
                                    exact absurd H (by simp)
                                · rw [if_neg c25] at H
                                  (try (have c25u : ¬ (((x6_1 + 1)) < (a0.size : Int)) := by (have h_ := c25; unfold wrap64 at h_; omega)))
                                  (try (have c25ub0 : decide (((x6_1 + 1)) < (a0.size : Int)) = false := decide_eq_false c25u))
                                  (try clear c25u)
                                  have c25b0 : decide ((wrap64 (x6_1 + 1)) < (a0.size : Int)) = false := decide_eq_false c25
                                  clear c25
                                  by_cases c32 : x5_1.size + (a0.extract (x6_1 : Int).toNat ((wrap64 (x6_1 + 1)) : Int).toNat).size ≤ 9223372036854775807
                                  · rw [if_pos c32] at H
                                    (try (have c32s := c32; simp only [ByteArray.size_extract, Nat.min_self] at c32s; have c32sb := eq_true c32s; have c32sd := decide_eq_true c32s; clear c32s))
                                    have c32b0 := eq_true c32
                                    have c32b1 : decide (x5_1.size + (a0.extract (x6_1 : Int).toNat ((wrap64 (x6_1 + 1)) : Int).toNat).size ≤ 9223372036854775807) = true := decide_eq_true c32
                                    try have c32b2 : (9223372036854775807 < x5_1.size + (a0.extract (x6_1 : Int).toNat ((wrap64 (x6_1 + 1)) : Int).toNat).size) = False := eq_false (Nat.not_lt.2 c32)
                                    have H' := Aside0.mk H
                                    clear H
                                    have p23 : 0 ≤ (x6_1 : Int) := of_decide_eq_true (by first | (with_reducible assumption) | assumption)
                                    have q23 : x6_1 < (a0.size : Int) := of_decide_eq_true (by first | (with_reducible assumption) | assumption)
                                    have hx23 := bt_at a0 x6_1
                                    replace p23 := eq_true p23
                                    replace q23 := eq_true q23
                                    go_wp2
                                    go_roundg kj15
                                    case measure => have := HK1.out; have := HJ15.out; omega
                                    case rel => exact ⟨(x5_1 ++ (a0.extract (x6_1 : Int).toNat ((wrap64 (x6_1 + 1)) : Int).toNat)), (wrap64 (x6_1 + 1)), (by first | with_reducible rfl | (simp; done) | rfl | (simp [*]; done)), (by first | with_reducible rfl | (simp; done) | rfl | (simp [*]; done)), H', ⟨by have := HK1.out; have := HJ15.out; omega⟩, by repeat (first | exact Drawn0.refl _ | apply Drawn0.step)⟩
                                  · rw [if_neg c32] at H
                                    exact absurd H (by simp)
                              · rw [if_neg c24] at H
                                have c24b0 : ((bt a0 x6_1) == 194) = false := beq_eq_false_iff_ne.mpr c24
                                have c24b1 : ((bt a0 x6_1) != 194) = true := bne_iff_ne.mpr c24
                                by_cases c33 : x5_1.size + (a0.extract (x6_1 : Int).toNat ((wrap64 (x6_1 + 1)) : Int).toNat).size ≤ 9223372036854775807
                                · rw [if_pos c33] at H
                                  (try (have c33s := c33; simp only [ByteArray.size_extract, Nat.min_self] at c33s; have c33sb := eq_true c33s; have c33sd := decide_eq_true c33s; clear c33s))
                                  have c33b0 := eq_true c33
                                  have c33b1 : decide (x5_1.size + (a0.extract (x6_1 : Int).toNat ((wrap64 (x6_1 + 1)) : Int).toNat).size ≤ 9223372036854775807) = true := decide_eq_true c33
                                  try have c33b2 : (9223372036854775807 < x5_1.size + (a0.extract (x6_1 : Int).toNat ((wrap64 (x6_1 + 1)) : Int).toNat).size) = False := eq_false (Nat.not_lt.2 c33)
                                  have H' := Aside0.mk H
                                  clear H
                                  have p23 : 0 ≤ (x6_1 : Int) := of_decide_eq_true (by first | (with_reducible assumption) | assumption)
                                  have q23 : x6_1 < (a0.size : Int) := of_decide_eq_true (by first | (with_reducible assumption) | assumption)
                                  have hx23 := bt_at a0 x6_1
                                  replace p23 := eq_true p23
                                  replace q23 := eq_true q23
                                  go_wp2
                                  go_roundg kj15
                                  case measure => have := HK1.out; have := HJ15.out; omega
                                  case rel => exact ⟨(x5_1 ++ (a0.extract (x6_1 : Int).toNat ((wrap64 (x6_1 + 1)) : Int).toNat)), (wrap64 (x6_1 + 1)), (by first | with_reducible rfl | (simp; done) | rfl | (simp [*]; done)), (by first | with_reducible rfl | (simp; done) | rfl | (simp [*]; done)), H', ⟨by have := HK1.out; have := HJ15.out; omega⟩, by repeat (first | exact Drawn0.refl _ | apply Drawn0.step)⟩
                                · rw [if_neg c33] at H
                                  exact absurd H (by simp)
                            · rw [if_neg c22] at H
                              exact absurd H (by simp)
                          · rw [if_neg c21] at H
                            exact absurd H (by simp)
            · rw [if_neg c6] at H
              exact absurd H (by simp)
          · rw [if_neg c5] at H
            exact absurd H (by simp)
        · rw [if_neg c4] at H
          exact absurd H (by simp)
      · rw [if_neg c3] at H
        have c3b0 : decide (x6_1 < (a0.size : Int)) = false := decide_eq_false c3
        clear c3
        obtain rfl := Option.some.inj H
        go_wp2
        go_ret
        exact ⟨by first | rfl | (simp; done) | (simp [*]; done), by repeat (first | exact Drawn0.refl _ | apply Drawn0.step)⟩

/-! ### portiereref05_Text: function 11 -/
def portiereref05_Text.f (k : Nat) (a0 : ByteArray) : Option (ByteArray) := (portiereref05_written.f k a0 false).bind fun t104 => (some t104)
theorem portiereref05_Text.mono : ∀ a0 k, LeO (portiereref05_Text.f k a0) (portiereref05_Text.f (k + 1) a0) := by
  intro a0 k
  unfold portiereref05_Text.f
  repeat' first
      | (with_reducible exact portiereref05_written.mono _ _ _)
      | (with_reducible exact LeO.refl _)
      | (with_reducible exact LeO.none _)
      | (with_reducible refine LeO.ite ?_ ?_)
      | (with_reducible refine LeO.bind ?_ (fun _ => ?_))
      | exact portiereref05_written.mono _ _ _
      | exact LeO.none _
      | refine LeO.ite ?_ ?_
      | refine LeO.bind ?_ (fun _ => ?_)
set_option maxHeartbeats 8000000 in
set_option maxRecDepth 100000 in
theorem portiereref05_Text.calls (k : Nat) (a0 : ByteArray) (r : ByteArray) (w : World) (h : portiereref05_Text.f k a0 = some r) :
    Calls Try.prog 11 #[.string a0] w fun e w' => e = .returned (.string r) ∧ Drawn0 w w' := by
  have H : ((portiereref05_written.f k a0 false).bind fun t104 => (some t104)) = some r := h
  clear h
  replace H := Option.bind_eq_some_iff.mp H
  obtain ⟨t104, A20, H⟩ := H
  replace H : (some t104) = some r := H
  have A2 := Aside0.mk A20
  clear A20
  obtain rfl := Option.some.inj H
  go_enter Try.func11, Try.ntmps11
  go_wp2_with (first | ((with_reducible refine gate_callee (f := 16) rfl ?_); refine goesL_ (some 4) rfl rfl Try.func16 (by kernel_rfl) rfl #[.string a0, .bool false] rfl (by (try simp only [List.map_toArray, List.map_cons, List.map_nil]); first | done | rfl | (simp only [List.length_drop, List.length_take]; rfl)) ?_; (with_reducible refine (portiereref05_written.calls k a0 false t104 _ A2.out).mono ?_); rintro e w' ⟨rfl, ⟨nd, rfl⟩⟩; refine ⟨_, rfl, ?_⟩))
  go_ret
  exact ⟨by first | rfl | (simp; done) | (simp [*]; done), by repeat (first | exact Drawn0.refl _ | apply Drawn0.step)⟩

/-! ### portiereref05_Value: function 12 -/
def portiereref05_Value.f (k : Nat) (a0 : ByteArray) : Option (ByteArray) := (portiereref05_written.f k a0 true).bind fun t105 => (some t105)
theorem portiereref05_Value.mono : ∀ a0 k, LeO (portiereref05_Value.f k a0) (portiereref05_Value.f (k + 1) a0) := by
  intro a0 k
  unfold portiereref05_Value.f
  repeat' first
      | (with_reducible exact portiereref05_written.mono _ _ _)
      | (with_reducible exact LeO.refl _)
      | (with_reducible exact LeO.none _)
      | (with_reducible refine LeO.ite ?_ ?_)
      | (with_reducible refine LeO.bind ?_ (fun _ => ?_))
      | exact portiereref05_written.mono _ _ _
      | exact LeO.none _
      | refine LeO.ite ?_ ?_
      | refine LeO.bind ?_ (fun _ => ?_)
set_option maxHeartbeats 8000000 in
set_option maxRecDepth 100000 in
theorem portiereref05_Value.calls (k : Nat) (a0 : ByteArray) (r : ByteArray) (w : World) (h : portiereref05_Value.f k a0 = some r) :
    Calls Try.prog 12 #[.string a0] w fun e w' => e = .returned (.string r) ∧ Drawn0 w w' := by
  have H : ((portiereref05_written.f k a0 true).bind fun t105 => (some t105)) = some r := h
  clear h
  replace H := Option.bind_eq_some_iff.mp H
  obtain ⟨t105, A20, H⟩ := H
  replace H : (some t105) = some r := H
  have A2 := Aside0.mk A20
  clear A20
  obtain rfl := Option.some.inj H
  go_enter Try.func12, Try.ntmps12
  go_wp2_with (first | ((with_reducible refine gate_callee (f := 16) rfl ?_); refine goesL_ (some 4) rfl rfl Try.func16 (by kernel_rfl) rfl #[.string a0, .bool true] rfl (by (try simp only [List.map_toArray, List.map_cons, List.map_nil]); first | done | rfl | (simp only [List.length_drop, List.length_take]; rfl)) ?_; (with_reducible refine (portiereref05_written.calls k a0 true t105 _ A2.out).mono ?_); rintro e w' ⟨rfl, ⟨nd, rfl⟩⟩; refine ⟨_, rfl, ?_⟩))
  go_ret
  exact ⟨by first | rfl | (simp; done) | (simp [*]; done), by repeat (first | exact Drawn0.refl _ | apply Drawn0.step)⟩

/-! ### portierelaw05_EscapeWrites: function 5 -/
def portierelaw05_EscapeWrites.j0 : Nat → ByteArray → Bool → Option (Bool)
  | 0, _, _ => none
  | k + 1, x0, x9 => if x9 = true then ((portierelaw05_known.f).bind fun t107 => (some t107)) else ((escape_Text.f x0).bind fun t108 => ((portiereref05_Text.f k x0).bind fun t109 => (if t108.toList = t109.toList then ((escape_Value.f x0).bind fun t110 => ((portiereref05_Value.f k x0).bind fun t111 => (some (t110.toList == t111.toList)))) else (some false))))
def portierelaw05_EscapeWrites.f (k : Nat) (a0 : ByteArray) : Option (Bool) := if (a0.size : Int) > 2000 then (portierelaw05_EscapeWrites.j0 k a0 true) else ((portierelaw05_known.f).bind fun t106 => (portierelaw05_EscapeWrites.j0 k a0 (!t106)))
theorem portierelaw05_EscapeWrites.mono_l : ∀ k, (∀ y0 y1, LeO (portierelaw05_EscapeWrites.j0 k y0 y1) (portierelaw05_EscapeWrites.j0 (k + 1) y0 y1))
  | 0 => fun _ _ r h => by simp [portierelaw05_EscapeWrites.j0] at h
  | k + 1 => by
    have ih0 := portierelaw05_EscapeWrites.mono_l k
    · intro y0 y1
      unfold portierelaw05_EscapeWrites.j0
      repeat' first
      | (with_reducible exact ih0 _ _)
      | (with_reducible exact portiereref05_Text.mono _ _)
      | (with_reducible exact portiereref05_Value.mono _ _)
      | (with_reducible exact LeO.refl _)
      | (with_reducible exact LeO.none _)
      | (with_reducible refine LeO.ite ?_ ?_)
      | (with_reducible refine LeO.bind ?_ (fun _ => ?_))
      | exact ih0 _ _
      | exact portiereref05_Text.mono _ _
      | exact portiereref05_Value.mono _ _
      | exact LeO.none _
      | refine LeO.ite ?_ ?_
      | refine LeO.bind ?_ (fun _ => ?_)
theorem portierelaw05_EscapeWrites.mono : ∀ a0 k, LeO (portierelaw05_EscapeWrites.f k a0) (portierelaw05_EscapeWrites.f (k + 1) a0) := by
  intro a0 k
  have ih0 := portierelaw05_EscapeWrites.mono_l k
  unfold portierelaw05_EscapeWrites.f
  repeat' first
      | (with_reducible exact ih0 _ _)
      | (with_reducible exact portiereref05_Text.mono _ _)
      | (with_reducible exact portiereref05_Value.mono _ _)
      | (with_reducible exact LeO.refl _)
      | (with_reducible exact LeO.none _)
      | (with_reducible refine LeO.ite ?_ ?_)
      | (with_reducible refine LeO.bind ?_ (fun _ => ?_))
      | exact ih0 _ _
      | exact portiereref05_Text.mono _ _
      | exact portiereref05_Value.mono _ _
      | exact LeO.none _
      | refine LeO.ite ?_ ?_
      | refine LeO.bind ?_ (fun _ => ?_)
set_option maxHeartbeats 8000000 in
set_option maxRecDepth 100000 in
theorem portierelaw05_EscapeWrites.calls (k : Nat) (a0 : ByteArray) (r : Bool) (w : World) (h : portierelaw05_EscapeWrites.f k a0 = some r) :
    Calls Try.prog 5 #[.string a0] w fun e w' => e = .returned (.bool r) ∧ Below w.heap.size w w' := by
  have HB := Aside0.mk (Below.refl w.heap.size w)
  have H : (if (a0.size : Int) > 2000 then (portierelaw05_EscapeWrites.j0 k a0 true) else ((portierelaw05_known.f).bind fun t106 => (portierelaw05_EscapeWrites.j0 k a0 (!t106)))) = some r := h
  clear h
  have HC2 := Aside0.mk H
  clear H
  go_enter Try.func5, Try.ntmps5
  go_upto_region 1 with (fail)
  go_cut [9] (fun v9 wc => ∃ (kq : Nat) (x9_1 : Bool), v9 = .bool x9_1 ∧ Aside0 (portierelaw05_EscapeWrites.j0 kq a0 x9_1 = some r) ∧ Aside0 (kq ≤ k) ∧ Aside0 (Below w.heap.size w wc))
  case first =>
    have H := HC2.out
    clear HC2
    by_cases c3 : (a0.size : Int) > 2000
    · rw [if_pos c3] at H
      have c3b0 : decide (2000 < (a0.size : Int)) = true := decide_eq_true c3
      have c3b1 : decide (2000 < a0.size) = true := decide_eq_true (by omega)
      clear c3
      (first | rw [c3b0] | (simp only [i64_w, i32_w]; rw [c3b0]) | skip)
      have H' := Aside0.mk H
      clear H
      go_wp2
      go_meet
      case rel => exact ⟨_, (true), (by first | rfl | (simp; done) | (simp [*]; done)), H', ⟨by first | omega | exact Nat.le_refl _⟩, ⟨by repeat (first | (with_reducible first | exact HB.out | apply below_alloc | apply pw_below_drewN | apply below_drew1) | exact HB.out)⟩⟩
    · rw [if_neg c3] at H
      have c3b0 : decide (2000 < (a0.size : Int)) = false := decide_eq_false c3
      have c3b1 : decide (2000 < a0.size) = false := decide_eq_false (by omega)
      clear c3
      (first | rw [c3b0] | (simp only [i64_w, i32_w]; rw [c3b0]) | skip)
      replace H := Option.bind_eq_some_iff.mp H
      obtain ⟨t106, A40, H⟩ := H
      replace H : (portierelaw05_EscapeWrites.j0 k a0 (!t106)) = some r := H
      have A4 := Aside0.mk A40
      clear A40
      have H' := Aside0.mk H
      clear H
      go_wp2_with (first | (go_at_call 8; (with_reducible refine (portierelaw05_known.calls  t106 _ A4.out).mono ?_); rintro e w5 ⟨rfl, hb⟩; have n0_ := Aside0.mk (below_step (by repeat (first | (with_reducible first | exact HB.out | apply below_alloc | apply pw_below_drewN | apply below_drew1) | exact HB.out)) hb); clear HB; have HB := n0_; clear n0_; (try clear hb); (try clear hb2); (try clear hk); (try clear hi)))
      go_meet
      case rel => exact ⟨_, (!t106), (by first | rfl | (simp; done) | (simp [*]; done)), H', ⟨by first | omega | exact Nat.le_refl _⟩, ⟨by repeat (first | (with_reducible first | exact HB.out | apply below_alloc | apply pw_below_drewN | apply below_drew1) | exact HB.out)⟩⟩
  case rest =>
    clear HC2
    try clear p2
    try clear c3
    try clear c3b0
    try clear c3b1
    try clear c5
    obtain ⟨kq, x9_1, rfl, HA, HJ1, HB⟩ := hcut
    cases kq with
    | zero => exact absurd HA.out (by simp [portierelaw05_EscapeWrites.j0])
    | succ kj1 =>
      have H := HA.out
      clear HA
      simp only [portierelaw05_EscapeWrites.j0] at H
      by_cases c6 : x9_1 = true
      · subst c6
        have H1 : ((portierelaw05_known.f).bind fun t107 => (some t107)) = some r := by rw [if_pos rfl] at H; exact H
        clear H
        have H := H1
        clear H1
        replace H := Option.bind_eq_some_iff.mp H
        obtain ⟨t107, A70, H⟩ := H
        replace H : (some t107) = some r := H
        have A7 := Aside0.mk A70
        clear A70
        obtain rfl := Option.some.inj H
        go_wp2_with (first | ((with_reducible refine gate_callee (f := 8) rfl ?_); refine goesL_ (some 10) rfl rfl Try.func8 (by kernel_rfl) rfl #[] rfl (by (try simp only [List.map_toArray, List.map_cons, List.map_nil]); first | done | rfl | (simp only [List.length_drop, List.length_take]; rfl)) ?_; (with_reducible refine (portierelaw05_known.calls  t107 _ A7.out).mono ?_); rintro e w8 ⟨rfl, hb⟩; refine ⟨_, rfl, ?_⟩; have n0_ := Aside0.mk (below_step (by repeat (first | (with_reducible first | exact HB.out | apply below_alloc | apply pw_below_drewN | apply below_drew1) | exact HB.out)) hb); clear HB; have HB := n0_; clear n0_; (try clear hb); (try clear hb2); (try clear hk); (try clear hi)))
        go_ret
        exact ⟨by first | rfl | (simp [errW_none, errW_some] <;> rfl) | (simp [*, errW_none, errW_some] <;> rfl), by repeat (first | (with_reducible first | exact HB.out | apply below_alloc | apply pw_below_drewN | apply below_drew1) | exact HB.out)⟩
      · replace c6 := Bool.eq_false_iff.mpr c6
        subst c6
        have H1 : ((escape_Text.f a0).bind fun t108 => ((portiereref05_Text.f kj1 a0).bind fun t109 => (if t108.toList = t109.toList then ((escape_Value.f a0).bind fun t110 => ((portiereref05_Value.f kj1 a0).bind fun t111 => (some (t110.toList == t111.toList)))) else (some false)))) = some r := by rw [if_neg (show ¬ (false = true) by decide)] at H; exact H
        clear H
        have H := H1
        clear H1
        replace H := Option.bind_eq_some_iff.mp H
        obtain ⟨t108, A90, H⟩ := H
        replace H : ((portiereref05_Text.f kj1 a0).bind fun t109 => (if t108.toList = t109.toList then ((escape_Value.f a0).bind fun t110 => ((portiereref05_Value.f kj1 a0).bind fun t111 => (some (t110.toList == t111.toList)))) else (some false))) = some r := H
        have A9 := Aside0.mk A90
        clear A90
        replace H := Option.bind_eq_some_iff.mp H
        obtain ⟨t109, A100, H⟩ := H
        replace H : (if t108.toList = t109.toList then ((escape_Value.f a0).bind fun t110 => ((portiereref05_Value.f kj1 a0).bind fun t111 => (some (t110.toList == t111.toList)))) else (some false)) = some r := H
        have A10 := Aside0.mk A100
        clear A100
        by_cases c11 : t108.toList = t109.toList
        · rw [if_pos c11] at H
          have c11b0 : (t108.toList == t109.toList) = true := beq_iff_eq.mpr c11
          have c11b1 : (t108.toList != t109.toList) = false := bne_eq_false_iff_eq.mpr c11
          clear c11
          replace H := Option.bind_eq_some_iff.mp H
          obtain ⟨t110, A120, H⟩ := H
          replace H : ((portiereref05_Value.f kj1 a0).bind fun t111 => (some (t110.toList == t111.toList))) = some r := H
          have A12 := Aside0.mk A120
          clear A120
          replace H := Option.bind_eq_some_iff.mp H
          obtain ⟨t111, A130, H⟩ := H
          replace H : (some (t110.toList == t111.toList)) = some r := H
          have A13 := Aside0.mk A130
          clear A130
          obtain rfl := Option.some.inj H
          go_wp2_with (first | ((with_reducible refine gate_callee (f := 9) rfl ?_); refine goesL_ (some 12) rfl rfl Try.func9 (by kernel_rfl) rfl #[.string a0] rfl (by (try simp only [List.map_toArray, List.map_cons, List.map_nil]); first | done | rfl | (simp only [List.length_drop, List.length_take]; rfl)) ?_; (with_reducible refine (escape_Text.calls a0 t108 _ A9.out).mono ?_); rintro e w14 ⟨rfl, hb⟩; refine ⟨_, rfl, ?_⟩; have n0_ := Aside0.mk (below_step (by repeat (first | (with_reducible first | exact HB.out | apply below_alloc | apply pw_below_drewN | apply below_drew1) | exact HB.out)) hb); clear HB; have HB := n0_; clear n0_; (try clear hb); (try clear hb2); (try clear hk); (try clear hi)) | ((with_reducible refine gate_callee (f := 11) rfl ?_); refine goesL_ (some 14) rfl rfl Try.func11 (by kernel_rfl) rfl #[.string a0] rfl (by (try simp only [List.map_toArray, List.map_cons, List.map_nil]); first | done | rfl | (simp only [List.length_drop, List.length_take]; rfl)) ?_; (with_reducible refine (portiereref05_Text.calls kj1 a0 t109 _ A10.out).mono ?_); rintro e w' ⟨rfl, ⟨nd, rfl⟩⟩; refine ⟨_, rfl, ?_⟩) | (go_at_call 10; (with_reducible refine (escape_Value.calls a0 t110 _ A12.out).mono ?_); rintro e w15 ⟨rfl, hb⟩; have n0_ := Aside0.mk (below_step (by repeat (first | (with_reducible first | exact HB.out | apply below_alloc | apply pw_below_drewN | apply below_drew1) | exact HB.out)) hb); clear HB; have HB := n0_; clear n0_; (try clear hb); (try clear hb2); (try clear hk); (try clear hi)) | (go_at_call 12; (with_reducible refine (portiereref05_Value.calls kj1 a0 t111 _ A13.out).mono ?_); rintro e w' ⟨rfl, ⟨nd, rfl⟩⟩))
          go_ret
          exact ⟨by first | rfl | (simp [errW_none, errW_some] <;> rfl) | (simp [*, errW_none, errW_some] <;> rfl), by repeat (first | (with_reducible first | exact HB.out | apply below_alloc | apply pw_below_drewN | apply below_drew1) | exact HB.out)⟩
        · rw [if_neg c11] at H
          have c11b0 : (t108.toList == t109.toList) = false := beq_eq_false_iff_ne.mpr c11
          have c11b1 : (t108.toList != t109.toList) = true := bne_iff_ne.mpr c11
          obtain rfl := Option.some.inj H
          go_wp2_with (first | ((with_reducible refine gate_callee (f := 9) rfl ?_); refine goesL_ (some 12) rfl rfl Try.func9 (by kernel_rfl) rfl #[.string a0] rfl (by (try simp only [List.map_toArray, List.map_cons, List.map_nil]); first | done | rfl | (simp only [List.length_drop, List.length_take]; rfl)) ?_; (with_reducible refine (escape_Text.calls a0 t108 _ A9.out).mono ?_); rintro e w16 ⟨rfl, hb⟩; refine ⟨_, rfl, ?_⟩; have n0_ := Aside0.mk (below_step (by repeat (first | (with_reducible first | exact HB.out | apply below_alloc | apply pw_below_drewN | apply below_drew1) | exact HB.out)) hb); clear HB; have HB := n0_; clear n0_; (try clear hb); (try clear hb2); (try clear hk); (try clear hi)) | ((with_reducible refine gate_callee (f := 11) rfl ?_); refine goesL_ (some 14) rfl rfl Try.func11 (by kernel_rfl) rfl #[.string a0] rfl (by (try simp only [List.map_toArray, List.map_cons, List.map_nil]); first | done | rfl | (simp only [List.length_drop, List.length_take]; rfl)) ?_; (with_reducible refine (portiereref05_Text.calls kj1 a0 t109 _ A10.out).mono ?_); rintro e w' ⟨rfl, ⟨nd, rfl⟩⟩; refine ⟨_, rfl, ?_⟩))
          go_ret
          exact ⟨by first | rfl | (simp [errW_none, errW_some] <;> rfl) | (simp [*, errW_none, errW_some] <;> rfl), by repeat (first | (with_reducible first | exact HB.out | apply below_alloc | apply pw_below_drewN | apply below_drew1) | exact HB.out)⟩

/-- THE ONE PURE STATEMENT of portierelaw05_EscapeWrites: yours. -/
def portierelaw05_EscapeWrites.Pure : Prop := ∀ (a0 : ByteArray), a0.size ≤ 140737488351232 → ∃ k, portierelaw05_EscapeWrites.f k a0 = some true
theorem portierelaw05_EscapeWrites.walk (P : portierelaw05_EscapeWrites.Pure) (a0 : ByteArray) (w : World) (w0 : a0.size ≤ 140737488351232) :
    Calls Try.prog 5 #[.string a0] w fun e w' => e = .returned (.bool true) ∧ Below w.heap.size w w' := by
  obtain ⟨k, h⟩ := P a0 w0
  refine (portierelaw05_EscapeWrites.calls k a0 true w h).mono ?_
  rintro e w' ⟨rfl, hd⟩
  exact ⟨rfl, hd⟩

end Go.Proofs.Ytebcdfdkgjcmmaa.P
