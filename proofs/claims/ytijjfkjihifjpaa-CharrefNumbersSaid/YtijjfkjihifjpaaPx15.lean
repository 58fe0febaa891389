-- Written by wip/tools/gprint.py of this session, over the kit's print. Lean checks it.
import Derived.Test.YtijjfkjihifjpaaPx0
import Derived.Test.YtijjfkjihifjpaaPx6
import Derived.Test.YtijjfkjihifjpaaPx8
import Derived.Test.YtijjfkjihifjpaaPx10
import Derived.Test.YtijjfkjihifjpaaPx14
namespace Go.Proofs.Ytijjfkjihifjpaa.P
open Go.Proofs.Ytijjfkjihifjpaa.Hand
open Go.RowKit Go.Proofs.YtijjfkjihifjpaaW.PrintWords Go.Proofs.YtijjfkjihifjpaaW.PrintLast Go.Proofs.YtijjfkjihifjpaaW.PrintMore
attribute [local go_sem] max2_int min2_int max_two min_two max_three min_three max_four min_four   -- for this text's walks alone
attribute [local go_sem] Go.IntKind.wrap_u32
set_option linter.unusedVariables false
set_option linter.unusedSimpArgs false

/-! ### portierelaw04_CharrefNumbers: function 7 -/
mutual
def portierelaw04_CharrefNumbers.j0 : Nat → ByteArray → Int → Bool → Option (Bool)
  | 0, _, _, _ => none
  | k + 1, x1, x5, x20 => if x20 = true then ((portierelaw04_known.f).bind fun t176 => (some t176)) else ((portierelaw04_digits.f k x5 10).bind fun t177 => (if 2 + t177.size ≤ 9223372036854775807 then (if 2 + t177.size + 1 ≤ 9223372036854775807 then (if 2 + t177.size + 1 + x1.size ≤ 9223372036854775807 then ((charref_Take.f ((((⟨#[38, 35]⟩ : ByteArray) ++ t177) ++ (⟨#[59]⟩ : ByteArray)) ++ x1) 0 false).bind fun bt178 => ((portierelaw04_digits.f k x5 16).bind fun t181 => (if 3 + t181.size ≤ 9223372036854775807 then (if 3 + t181.size + 1 ≤ 9223372036854775807 then (if 3 + t181.size + 1 + x1.size ≤ 9223372036854775807 then ((charref_Take.f ((((⟨#[38, 35, 120]⟩ : ByteArray) ++ t181) ++ (⟨#[59]⟩ : ByteArray)) ++ x1) 0 true).bind fun bt182 => (if bt178.1.toList = bt182.1.toList then (if bt178.2.2 = bt182.2.2 then ((portierelaw04_digits.f k x5 10).bind fun t185 => (if bt178.2.1 = (wrap64 (3 + (t185.size : Int))) then ((portierelaw04_digits.f k x5 16).bind fun t186 => (portierelaw04_CharrefNumbers.j1 k x5 bt178.1 bt178.2.2 (bt182.2.1 != (wrap64 (4 + (t186.size : Int)))))) else (portierelaw04_CharrefNumbers.j1 k x5 bt178.1 bt178.2.2 true))) else (portierelaw04_CharrefNumbers.j1 k x5 bt178.1 bt178.2.2 true)) else (portierelaw04_CharrefNumbers.j1 k x5 bt178.1 bt178.2.2 true))) else (none)) else (none)) else (none)))) else (none)) else (none)) else (none)))
def portierelaw04_CharrefNumbers.j1 : Nat → Int → ByteArray → Int → Bool → Option (Bool)
  | 0, _, _, _, _ => none
  | k + 1, x5, x6, x8, x67 => if x67 = true then (some false) else (if x5 = 0 then (portierelaw04_CharrefNumbers.j2 k x5 x6 x8 true) else (if x5 > 1114111 then (portierelaw04_CharrefNumbers.j2 k x5 x6 x8 true) else (if x5 ≥ 55296 then (portierelaw04_CharrefNumbers.j2 k x5 x6 x8 (decide (x5 ≤ 57343))) else (portierelaw04_CharrefNumbers.j2 k x5 x6 x8 false))))
def portierelaw04_CharrefNumbers.j2 : Nat → Int → ByteArray → Int → Bool → Option (Bool)
  | 0, _, _, _, _ => none
  | k + 1, x5, x6, x8, x81 => if x81 = true then (if x6.toList = ([239, 191, 189] : List UInt8) then (some (x8 == 2)) else (some false)) else (if x5 ≥ 128 then (if x5 ≤ 159 then (some (x8 == 2)) else (if x8 = 0 then (some (x6.toList == (runesBytes (([wrap32 (x5)] : List Int))).toList)) else (some false))) else (if x8 = 0 then (some (x6.toList == (runesBytes (([wrap32 (x5)] : List Int))).toList)) else (some false)))
end
def portierelaw04_CharrefNumbers.f (k : Nat) (a0 : Int) (a1 : ByteArray) : Option (Bool) := if (a1.size : Int) > 100 then (portierelaw04_CharrefNumbers.j0 k a1 (Int.tmod a0 1179648) true) else ((portierelaw04_known.f).bind fun t175 => (portierelaw04_CharrefNumbers.j0 k a1 (Int.tmod a0 1179648) (!t175)))
theorem portierelaw04_CharrefNumbers.mono_l : ∀ k, (∀ y0 y1 y2, LeO (portierelaw04_CharrefNumbers.j0 k y0 y1 y2) (portierelaw04_CharrefNumbers.j0 (k + 1) y0 y1 y2)) ∧ (∀ y0 y1 y2 y3, LeO (portierelaw04_CharrefNumbers.j1 k y0 y1 y2 y3) (portierelaw04_CharrefNumbers.j1 (k + 1) y0 y1 y2 y3)) ∧ (∀ y0 y1 y2 y3, LeO (portierelaw04_CharrefNumbers.j2 k y0 y1 y2 y3) (portierelaw04_CharrefNumbers.j2 (k + 1) y0 y1 y2 y3))
  | 0 => ⟨fun _ _ _ r h => by simp [portierelaw04_CharrefNumbers.j0] at h, fun _ _ _ _ r h => by simp [portierelaw04_CharrefNumbers.j1] at h, fun _ _ _ _ r h => by simp [portierelaw04_CharrefNumbers.j2] at h⟩
  | k + 1 => by
    obtain ⟨ih0, ih1, ih2⟩ := portierelaw04_CharrefNumbers.mono_l k
    refine ⟨?_, ?_, ?_⟩
    · intro y0 y1 y2
      unfold portierelaw04_CharrefNumbers.j0
      repeat' first
      | (with_reducible exact ih0 _ _ _)
      | (with_reducible exact ih1 _ _ _ _)
      | (with_reducible exact ih2 _ _ _ _)
      | (with_reducible exact portierelaw04_digits.mono _ _ _)
      | (with_reducible exact LeO.refl _)
      | (with_reducible exact LeO.none _)
      | (with_reducible refine LeO.ite ?_ ?_)
      | (with_reducible refine LeO.bind ?_ (fun _ => ?_))
      | exact ih0 _ _ _
      | exact ih1 _ _ _ _
      | exact ih2 _ _ _ _
      | exact portierelaw04_digits.mono _ _ _
      | exact LeO.none _
      | refine LeO.ite ?_ ?_
      | refine LeO.bind ?_ (fun _ => ?_)
    · intro y0 y1 y2 y3
      unfold portierelaw04_CharrefNumbers.j1
      repeat' first
      | (with_reducible exact ih0 _ _ _)
      | (with_reducible exact ih1 _ _ _ _)
      | (with_reducible exact ih2 _ _ _ _)
      | (with_reducible exact portierelaw04_digits.mono _ _ _)
      | (with_reducible exact LeO.refl _)
      | (with_reducible exact LeO.none _)
      | (with_reducible refine LeO.ite ?_ ?_)
      | (with_reducible refine LeO.bind ?_ (fun _ => ?_))
      | exact ih0 _ _ _
      | exact ih1 _ _ _ _
      | exact ih2 _ _ _ _
      | exact portierelaw04_digits.mono _ _ _
      | exact LeO.none _
      | refine LeO.ite ?_ ?_
      | refine LeO.bind ?_ (fun _ => ?_)
    · intro y0 y1 y2 y3
      unfold portierelaw04_CharrefNumbers.j2
      repeat' first
      | (with_reducible exact ih0 _ _ _)
      | (with_reducible exact ih1 _ _ _ _)
      | (with_reducible exact ih2 _ _ _ _)
      | (with_reducible exact portierelaw04_digits.mono _ _ _)
      | (with_reducible exact LeO.refl _)
      | (with_reducible exact LeO.none _)
      | (with_reducible refine LeO.ite ?_ ?_)
      | (with_reducible refine LeO.bind ?_ (fun _ => ?_))
      | exact ih0 _ _ _
      | exact ih1 _ _ _ _
      | exact ih2 _ _ _ _
      | exact portierelaw04_digits.mono _ _ _
      | exact LeO.none _
      | refine LeO.ite ?_ ?_
      | refine LeO.bind ?_ (fun _ => ?_)
theorem portierelaw04_CharrefNumbers.mono : ∀ a0 a1 k, LeO (portierelaw04_CharrefNumbers.f k a0 a1) (portierelaw04_CharrefNumbers.f (k + 1) a0 a1) := by
  intro a0 a1 k
  obtain ⟨ih0, ih1, ih2⟩ := portierelaw04_CharrefNumbers.mono_l k
  unfold portierelaw04_CharrefNumbers.f
  repeat' first
      | (with_reducible exact ih0 _ _ _)
      | (with_reducible exact ih1 _ _ _ _)
      | (with_reducible exact ih2 _ _ _ _)
      | (with_reducible exact portierelaw04_digits.mono _ _ _)
      | (with_reducible exact LeO.refl _)
      | (with_reducible exact LeO.none _)
      | (with_reducible refine LeO.ite ?_ ?_)
      | (with_reducible refine LeO.bind ?_ (fun _ => ?_))
      | exact ih0 _ _ _
      | exact ih1 _ _ _ _
      | exact ih2 _ _ _ _
      | exact portierelaw04_digits.mono _ _ _
      | exact LeO.none _
      | refine LeO.ite ?_ ?_
      | refine LeO.bind ?_ (fun _ => ?_)
set_option maxHeartbeats 8000000 in
set_option maxRecDepth 100000 in
theorem portierelaw04_CharrefNumbers.calls (k : Nat) (a0 : Int) (a1 : ByteArray) (r : Bool) (w : World) (h : portierelaw04_CharrefNumbers.f k a0 a1 = some r) :
    Calls Try.prog 7 #[.int .u32 a0, .string a1] w fun e w' => e = .returned (.bool r) ∧ Below w.heap.size w w' := by
  have HB := Aside0.mk (Below.refl w.heap.size w)
  have H : (if (a1.size : Int) > 100 then (portierelaw04_CharrefNumbers.j0 k a1 (Int.tmod a0 1179648) true) else ((portierelaw04_known.f).bind fun t175 => (portierelaw04_CharrefNumbers.j0 k a1 (Int.tmod a0 1179648) (!t175)))) = some r := h
  clear h
  have HC3 := Aside0.mk H
  clear H
  go_enter Try.func7, Try.ntmps7
  go_upto_region 2 with (fail)
  go_cut [20] (fun v20 wc => ∃ (kq : Nat) (x20_2 : Bool), v20 = .bool x20_2 ∧ Aside0 (portierelaw04_CharrefNumbers.j0 kq a1 (Int.tmod a0 1179648) x20_2 = some r) ∧ Aside0 (kq ≤ k) ∧ Aside0 (Below w.heap.size w wc))
  case first =>
    have H := HC3.out
    clear HC3
    by_cases c4 : (a1.size : Int) > 100
    · rw [if_pos c4] at H
      have c4b0 : decide (100 < (a1.size : Int)) = true := decide_eq_true c4
      have c4b1 : decide (100 < a1.size) = true := decide_eq_true (by omega)
      clear c4
      (first | rw [c4b0] | (simp only [i64_w, i32_w]; rw [c4b0]) | skip)
      have H' := Aside0.mk H
      clear H
      go_wp2
      go_meet
      case rel => exact ⟨_, (true), (by first | rfl | (simp; done) | (simp [*]; done)), H', ⟨by first | omega | exact Nat.le_refl _⟩, ⟨by repeat (first | (with_reducible first | exact HB.out | apply below_alloc | apply pw_below_drewN | apply below_drew1) | exact HB.out)⟩⟩
    · rw [if_neg c4] at H
      have c4b0 : decide (100 < (a1.size : Int)) = false := decide_eq_false c4
      have c4b1 : decide (100 < a1.size) = false := decide_eq_false (by omega)
      clear c4
      (first | rw [c4b0] | (simp only [i64_w, i32_w]; rw [c4b0]) | skip)
      replace H := Option.bind_eq_some_iff.mp H
      obtain ⟨t175, A50, H⟩ := H
      replace H : (portierelaw04_CharrefNumbers.j0 k a1 (Int.tmod a0 1179648) (!t175)) = some r := H
      have A5 := Aside0.mk A50
      clear A50
      have H' := Aside0.mk H
      clear H
      go_wp2_with (first | (go_at_call 10; (with_reducible refine (portierelaw04_known.calls  t175 _ A5.out).mono ?_); rintro e w6 ⟨rfl, hb⟩; have n0_ := Aside0.mk (below_step (by repeat (first | (with_reducible first | exact HB.out | apply below_alloc | apply pw_below_drewN | apply below_drew1) | exact HB.out)) hb); clear HB; have HB := n0_; clear n0_; (try clear hb); (try clear hb2); (try clear hk); (try clear hi)))
      go_meet
      case rel => exact ⟨_, (!t175), (by first | rfl | (simp; done) | (simp [*]; done)), H', ⟨by first | omega | exact Nat.le_refl _⟩, ⟨by repeat (first | (with_reducible first | exact HB.out | apply below_alloc | apply pw_below_drewN | apply below_drew1) | exact HB.out)⟩⟩
  case rest =>
    clear HC3
    try clear p2
    try clear c4
    try clear c4b0
    try clear c4b1
    obtain ⟨kq, x20_2, rfl, HA, HJ2, HB⟩ := hcut
    cases kq with
    | zero => exact absurd HA.out (by simp [portierelaw04_CharrefNumbers.j0])
    | succ kj2 =>
      have H := HA.out
      clear HA
      simp only [portierelaw04_CharrefNumbers.j0] at H
      by_cases c7 : x20_2 = true
      · subst c7
        have H1 : ((portierelaw04_known.f).bind fun t176 => (some t176)) = some r := by rw [if_pos rfl] at H; exact H
        clear H
        have H := H1
        clear H1
        replace H := Option.bind_eq_some_iff.mp H
        obtain ⟨t176, A80, H⟩ := H
        replace H : (some t176) = some r := H
        have A8 := Aside0.mk A80
        clear A80
        obtain rfl := Option.some.inj H
        go_wp2_with (first | ((with_reducible refine gate_callee (f := 10) rfl ?_); refine goesL_ (some 21) rfl rfl Try.func10 (by kernel_rfl) rfl #[] rfl (by (try simp only [List.map_toArray, List.map_cons, List.map_nil]); first | done | rfl | (simp only [List.length_drop, List.length_take]; rfl)) ?_; (with_reducible refine (portierelaw04_known.calls  t176 _ A8.out).mono ?_); rintro e w9 ⟨rfl, hb⟩; refine ⟨_, rfl, ?_⟩; have n0_ := Aside0.mk (below_step (by repeat (first | (with_reducible first | exact HB.out | apply below_alloc | apply pw_below_drewN | apply below_drew1) | exact HB.out)) hb); clear HB; have HB := n0_; clear n0_; (try clear hb); (try clear hb2); (try clear hk); (try clear hi)))
        go_ret
        exact ⟨by first | rfl | (simp [errW_none, errW_some] <;> rfl) | (simp [*, errW_none, errW_some] <;> rfl), by repeat (first | (with_reducible first | exact HB.out | apply below_alloc | apply pw_below_drewN | apply below_drew1) | exact HB.out)⟩
      · replace c7 := Bool.eq_false_iff.mpr c7
        subst c7
        have H1 : ((portierelaw04_digits.f kj2 (Int.tmod a0 1179648) 10).bind fun t177 => (if 2 + t177.size ≤ 9223372036854775807 then (if 2 + t177.size + 1 ≤ 9223372036854775807 then (if 2 + t177.size + 1 + a1.size ≤ 9223372036854775807 then ((charref_Take.f ((((⟨#[38, 35]⟩ : ByteArray) ++ t177) ++ (⟨#[59]⟩ : ByteArray)) ++ a1) 0 false).bind fun bt178 => ((portierelaw04_digits.f kj2 (Int.tmod a0 1179648) 16).bind fun t181 => (if 3 + t181.size ≤ 9223372036854775807 then (if 3 + t181.size + 1 ≤ 9223372036854775807 then (if 3 + t181.size + 1 + a1.size ≤ 9223372036854775807 then ((charref_Take.f ((((⟨#[38, 35, 120]⟩ : ByteArray) ++ t181) ++ (⟨#[59]⟩ : ByteArray)) ++ a1) 0 true).bind fun bt182 => (if bt178.1.toList = bt182.1.toList then (if bt178.2.2 = bt182.2.2 then ((portierelaw04_digits.f kj2 (Int.tmod a0 1179648) 10).bind fun t185 => (if bt178.2.1 = (wrap64 (3 + (t185.size : Int))) then ((portierelaw04_digits.f kj2 (Int.tmod a0 1179648) 16).bind fun t186 => (portierelaw04_CharrefNumbers.j1 kj2 (Int.tmod a0 1179648) bt178.1 bt178.2.2 (bt182.2.1 != (wrap64 (4 + (t186.size : Int)))))) else (portierelaw04_CharrefNumbers.j1 kj2 (Int.tmod a0 1179648) bt178.1 bt178.2.2 true))) else (portierelaw04_CharrefNumbers.j1 kj2 (Int.tmod a0 1179648) bt178.1 bt178.2.2 true)) else (portierelaw04_CharrefNumbers.j1 kj2 (Int.tmod a0 1179648) bt178.1 bt178.2.2 true))) else (none)) else (none)) else (none)))) else (none)) else (none)) else (none))) = some r := by rw [if_neg (show ¬ (false = true) by decide)] at H; exact H
        clear H
        have H := H1
        clear H1
        replace H := Option.bind_eq_some_iff.mp H
        obtain ⟨t177, A100, H⟩ := H
        replace H : (if 2 + t177.size ≤ 9223372036854775807 then (if 2 + t177.size + 1 ≤ 9223372036854775807 then (if 2 + t177.size + 1 + a1.size ≤ 9223372036854775807 then ((charref_Take.f ((((⟨#[38, 35]⟩ : ByteArray) ++ t177) ++ (⟨#[59]⟩ : ByteArray)) ++ a1) 0 false).bind fun bt178 => ((portierelaw04_digits.f kj2 (Int.tmod a0 1179648) 16).bind fun t181 => (if 3 + t181.size ≤ 9223372036854775807 then (if 3 + t181.size + 1 ≤ 9223372036854775807 then (if 3 + t181.size + 1 + a1.size ≤ 9223372036854775807 then ((charref_Take.f ((((⟨#[38, 35, 120]⟩ : ByteArray) ++ t181) ++ (⟨#[59]⟩ : ByteArray)) ++ a1) 0 true).bind fun bt182 => (if bt178.1.toList = bt182.1.toList then (if bt178.2.2 = bt182.2.2 then ((portierelaw04_digits.f kj2 (Int.tmod a0 1179648) 10).bind fun t185 => (if bt178.2.1 = (wrap64 (3 + (t185.size : Int))) then ((portierelaw04_digits.f kj2 (Int.tmod a0 1179648) 16).bind fun t186 => (portierelaw04_CharrefNumbers.j1 kj2 (Int.tmod a0 1179648) bt178.1 bt178.2.2 (bt182.2.1 != (wrap64 (4 + (t186.size : Int)))))) else (portierelaw04_CharrefNumbers.j1 kj2 (Int.tmod a0 1179648) bt178.1 bt178.2.2 true))) else (portierelaw04_CharrefNumbers.j1 kj2 (Int.tmod a0 1179648) bt178.1 bt178.2.2 true)) else (portierelaw04_CharrefNumbers.j1 kj2 (Int.tmod a0 1179648) bt178.1 bt178.2.2 true))) else (none)) else (none)) else (none)))) else (none)) else (none)) else (none)) = some r := H
        have A10 := Aside0.mk A100
        clear A100
        by_cases c11 : 2 + t177.size ≤ 9223372036854775807
        · rw [if_pos c11] at H
          have c11b0 := eq_true c11
          have c11b1 : decide (2 + t177.size ≤ 9223372036854775807) = true := decide_eq_true c11
          try have c11b2 : (9223372036854775807 < 2 + t177.size) = False := eq_false (Nat.not_lt.2 c11)
          by_cases c12 : 2 + t177.size + 1 ≤ 9223372036854775807
          · rw [if_pos c12] at H
            have c12b0 := eq_true c12
            have c12b1 : decide (2 + t177.size + 1 ≤ 9223372036854775807) = true := decide_eq_true c12
            try have c12b2 : (9223372036854775807 < 2 + t177.size + 1) = False := eq_false (Nat.not_lt.2 c12)
            by_cases c13 : 2 + t177.size + 1 + a1.size ≤ 9223372036854775807
            · rw [if_pos c13] at H
              have c13b0 := eq_true c13
              have c13b1 : decide (2 + t177.size + 1 + a1.size ≤ 9223372036854775807) = true := decide_eq_true c13
              try have c13b2 : (9223372036854775807 < 2 + t177.size + 1 + a1.size) = False := eq_false (Nat.not_lt.2 c13)
              replace H := Option.bind_eq_some_iff.mp H
              obtain ⟨⟨t178, t179, t180⟩, A140, H⟩ := H
              replace H : ((portierelaw04_digits.f kj2 (Int.tmod a0 1179648) 16).bind fun t181 => (if 3 + t181.size ≤ 9223372036854775807 then (if 3 + t181.size + 1 ≤ 9223372036854775807 then (if 3 + t181.size + 1 + a1.size ≤ 9223372036854775807 then ((charref_Take.f ((((⟨#[38, 35, 120]⟩ : ByteArray) ++ t181) ++ (⟨#[59]⟩ : ByteArray)) ++ a1) 0 true).bind fun bt182 => (if t178.toList = bt182.1.toList then (if t180 = bt182.2.2 then ((portierelaw04_digits.f kj2 (Int.tmod a0 1179648) 10).bind fun t185 => (if t179 = (wrap64 (3 + (t185.size : Int))) then ((portierelaw04_digits.f kj2 (Int.tmod a0 1179648) 16).bind fun t186 => (portierelaw04_CharrefNumbers.j1 kj2 (Int.tmod a0 1179648) t178 t180 (bt182.2.1 != (wrap64 (4 + (t186.size : Int)))))) else (portierelaw04_CharrefNumbers.j1 kj2 (Int.tmod a0 1179648) t178 t180 true))) else (portierelaw04_CharrefNumbers.j1 kj2 (Int.tmod a0 1179648) t178 t180 true)) else (portierelaw04_CharrefNumbers.j1 kj2 (Int.tmod a0 1179648) t178 t180 true))) else (none)) else (none)) else (none))) = some r := H
              have A14 := Aside0.mk A140
              clear A140
              replace H := Option.bind_eq_some_iff.mp H
              obtain ⟨t181, A150, H⟩ := H
              replace H : (if 3 + t181.size ≤ 9223372036854775807 then (if 3 + t181.size + 1 ≤ 9223372036854775807 then (if 3 + t181.size + 1 + a1.size ≤ 9223372036854775807 then ((charref_Take.f ((((⟨#[38, 35, 120]⟩ : ByteArray) ++ t181) ++ (⟨#[59]⟩ : ByteArray)) ++ a1) 0 true).bind fun bt182 => (if t178.toList = bt182.1.toList then (if t180 = bt182.2.2 then ((portierelaw04_digits.f kj2 (Int.tmod a0 1179648) 10).bind fun t185 => (if t179 = (wrap64 (3 + (t185.size : Int))) then ((portierelaw04_digits.f kj2 (Int.tmod a0 1179648) 16).bind fun t186 => (portierelaw04_CharrefNumbers.j1 kj2 (Int.tmod a0 1179648) t178 t180 (bt182.2.1 != (wrap64 (4 + (t186.size : Int)))))) else (portierelaw04_CharrefNumbers.j1 kj2 (Int.tmod a0 1179648) t178 t180 true))) else (portierelaw04_CharrefNumbers.j1 kj2 (Int.tmod a0 1179648) t178 t180 true)) else (portierelaw04_CharrefNumbers.j1 kj2 (Int.tmod a0 1179648) t178 t180 true))) else (none)) else (none)) else (none)) = some r := H
              have A15 := Aside0.mk A150
              clear A150
              by_cases c16 : 3 + t181.size ≤ 9223372036854775807
              · rw [if_pos c16] at H
                have c16b0 := eq_true c16
                have c16b1 : decide (3 + t181.size ≤ 9223372036854775807) = true := decide_eq_true c16
                try have c16b2 : (9223372036854775807 < 3 + t181.size) = False := eq_false (Nat.not_lt.2 c16)
                by_cases c17 : 3 + t181.size + 1 ≤ 9223372036854775807
                · rw [if_pos c17] at H
                  have c17b0 := eq_true c17
                  have c17b1 : decide (3 + t181.size + 1 ≤ 9223372036854775807) = true := decide_eq_true c17
                  try have c17b2 : (9223372036854775807 < 3 + t181.size + 1) = False := eq_false (Nat.not_lt.2 c17)
                  by_cases c18 : 3 + t181.size + 1 + a1.size ≤ 9223372036854775807
                  · rw [if_pos c18] at H
                    have c18b0 := eq_true c18
                    have c18b1 : decide (3 + t181.size + 1 + a1.size ≤ 9223372036854775807) = true := decide_eq_true c18
                    try have c18b2 : (9223372036854775807 < 3 + t181.size + 1 + a1.size) = False := eq_false (Nat.not_lt.2 c18)
                    replace H := Option.bind_eq_some_iff.mp H
                    obtain ⟨⟨t182, t183, t184⟩, A190, H⟩ := H
                    replace H : (if t178.toList = t182.toList then (if t180 = t184 then ((portierelaw04_digits.f kj2 (Int.tmod a0 1179648) 10).bind fun t185 => (if t179 = (wrap64 (3 + (t185.size : Int))) then ((portierelaw04_digits.f kj2 (Int.tmod a0 1179648) 16).bind fun t186 => (portierelaw04_CharrefNumbers.j1 kj2 (Int.tmod a0 1179648) t178 t180 (t183 != (wrap64 (4 + (t186.size : Int)))))) else (portierelaw04_CharrefNumbers.j1 kj2 (Int.tmod a0 1179648) t178 t180 true))) else (portierelaw04_CharrefNumbers.j1 kj2 (Int.tmod a0 1179648) t178 t180 true)) else (portierelaw04_CharrefNumbers.j1 kj2 (Int.tmod a0 1179648) t178 t180 true)) = some r := H
                    have A19 := Aside0.mk A190
                    clear A190
                    have HC20 := Aside0.mk H
                    clear H
                    go_upto_region 6 with (first | ((with_reducible refine gate_callee (f := 12) rfl ?_); refine goesL_ (some 24) rfl rfl Try.func12 (by kernel_rfl) rfl #[.int .u32 (Int.tmod a0 1179648), .int .u32 10] rfl (by (try simp only [List.map_toArray, List.map_cons, List.map_nil]); first | done | rfl | (simp only [List.length_drop, List.length_take]; rfl)) ?_; (with_reducible refine (portierelaw04_digits.calls kj2 (Int.tmod a0 1179648) 10 t177 _ A10.out).mono ?_); rintro e w21 ⟨rfl, hb⟩; refine ⟨_, rfl, ?_⟩; have n0_ := Aside0.mk (below_step (by repeat (first | (with_reducible first | exact HB.out | apply below_alloc | apply pw_below_drewN | apply below_drew1) | exact HB.out)) hb); clear HB; have HB := n0_; clear n0_; (try clear hb); (try clear hb2); (try clear hk); (try clear hi)) | ((with_reducible refine gate_callee (f := 13) rfl ?_); refine goesL_ (some 29) rfl rfl Try.func13 (by kernel_rfl) rfl #[.string ((((⟨#[38, 35]⟩ : ByteArray) ++ t177) ++ (⟨#[59]⟩ : ByteArray)) ++ a1), .int .i64 0, .bool false] rfl (by (try simp only [List.map_toArray, List.map_cons, List.map_nil]); first | done | rfl | (simp only [List.length_drop, List.length_take]; rfl)) ?_; (with_reducible refine (charref_Take.calls ((((⟨#[38, 35]⟩ : ByteArray) ++ t177) ++ (⟨#[59]⟩ : ByteArray)) ++ a1) 0 false t178 t179 t180 _ A14.out).mono ?_); rintro e w22 ⟨rfl, hb⟩; refine ⟨_, rfl, ?_⟩; have n0_ := Aside0.mk (below_step (by repeat (first | (with_reducible first | exact HB.out | apply below_alloc | apply pw_below_drewN | apply below_drew1) | exact HB.out)) hb); clear HB; have HB := n0_; clear n0_; (try clear hb); (try clear hb2); (try clear hk); (try clear hi)) | ((with_reducible refine gate_callee (f := 12) rfl ?_); refine goesL_ (some 35) rfl rfl Try.func12 (by kernel_rfl) rfl #[.int .u32 (Int.tmod a0 1179648), .int .u32 16] rfl (by (try simp only [List.map_toArray, List.map_cons, List.map_nil]); first | done | rfl | (simp only [List.length_drop, List.length_take]; rfl)) ?_; (with_reducible refine (portierelaw04_digits.calls kj2 (Int.tmod a0 1179648) 16 t181 _ A15.out).mono ?_); rintro e w23 ⟨rfl, hb⟩; refine ⟨_, rfl, ?_⟩; have n0_ := Aside0.mk (below_step (by repeat (first | (with_reducible first | exact HB.out | apply below_alloc | apply pw_below_drewN | apply below_drew1) | exact HB.out)) hb); clear HB; have HB := n0_; clear n0_; (try clear hb); (try clear hb2); (try clear hk); (try clear hi)) | ((with_reducible refine gate_callee (f := 13) rfl ?_); refine goesL_ (some 40) rfl rfl Try.func13 (by kernel_rfl) rfl #[.string ((((⟨#[38, 35, 120]⟩ : ByteArray) ++ t181) ++ (⟨#[59]⟩ : ByteArray)) ++ a1), .int .i64 0, .bool true] rfl (by (try simp only [List.map_toArray, List.map_cons, List.map_nil]); first | done | rfl | (simp only [List.length_drop, List.length_take]; rfl)) ?_; (with_reducible refine (charref_Take.calls ((((⟨#[38, 35, 120]⟩ : ByteArray) ++ t181) ++ (⟨#[59]⟩ : ByteArray)) ++ a1) 0 true t182 t183 t184 _ A19.out).mono ?_); rintro e w24 ⟨rfl, hb⟩; refine ⟨_, rfl, ?_⟩; have n0_ := Aside0.mk (below_step (by repeat (first | (with_reducible first | exact HB.out | apply below_alloc | apply pw_below_drewN | apply below_drew1) | exact HB.out)) hb); clear HB; have HB := n0_; clear n0_; (try clear hb); (try clear hb2); (try clear hk); (try clear hi)))
                    (try simp only [Act.put, List.setIfInBounds_toArray, List.set_cons_zero, List.set_cons_succ])
                    go_cut [67] (fun v67 wc => ∃ (kq : Nat) (x67_19 : Bool), v67 = .bool x67_19 ∧ Aside0 (portierelaw04_CharrefNumbers.j1 kq (Int.tmod a0 1179648) t178 t180 x67_19 = some r) ∧ Aside0 (kq ≤ kj2) ∧ Aside0 (Below w.heap.size w wc))
                    case first =>
                      have H := HC20.out
                      clear HC20
                      by_cases c25 : t178.toList = t182.toList
                      · rw [if_pos c25] at H
                        have c25b0 : (t178.toList == t182.toList) = true := beq_iff_eq.mpr c25
                        have c25b1 : (t178.toList != t182.toList) = false := bne_eq_false_iff_eq.mpr c25
                        clear c25
                        (first | rw [c25b0] | (simp only [i64_w, i32_w]; rw [c25b0]) | skip)
                        by_cases c26 : t180 = t184
                        · rw [if_pos c26] at H
                          have c26b0 : (t180 == t184) = true := beq_iff_eq.mpr c26
                          have c26b1 : (t180 != t184) = false := bne_eq_false_iff_eq.mpr c26
                          clear c26
                          replace H := Option.bind_eq_some_iff.mp H
                          obtain ⟨t185, A270, H⟩ := H
                          replace H : (if t179 = (wrap64 (3 + (t185.size : Int))) then ((portierelaw04_digits.f kj2 (Int.tmod a0 1179648) 16).bind fun t186 => (portierelaw04_CharrefNumbers.j1 kj2 (Int.tmod a0 1179648) t178 t180 (t183 != (wrap64 (4 + (t186.size : Int)))))) else (portierelaw04_CharrefNumbers.j1 kj2 (Int.tmod a0 1179648) t178 t180 true)) = some r := H
                          have A27 := Aside0.mk A270
                          clear A270
                          by_cases c28 : t179 = (wrap64 (3 + (t185.size : Int)))
                          · rw [if_pos c28] at H
                            (try (have c28u : (t179 = ((3 + (t185.size : Int)))) := by (have h_ := c28; unfold wrap64 at h_; omega)))
                            (try (have c28ub0 : (t179 == ((3 + (t185.size : Int)))) = true := beq_iff_eq.mpr c28u))
                            (try (have c28ub1 : (t179 != ((3 + (t185.size : Int)))) = false := bne_eq_false_iff_eq.mpr c28u))
                            (try clear c28u)
                            have c28b0 : (t179 == (wrap64 (3 + (t185.size : Int)))) = true := beq_iff_eq.mpr c28
                            have c28b1 : (t179 != (wrap64 (3 + (t185.size : Int)))) = false := bne_eq_false_iff_eq.mpr c28
                            clear c28
                            replace H := Option.bind_eq_some_iff.mp H
                            obtain ⟨t186, A290, H⟩ := H
                            replace H : (portierelaw04_CharrefNumbers.j1 kj2 (Int.tmod a0 1179648) t178 t180 (t183 != (wrap64 (4 + (t186.size : Int))))) = some r := H
                            have A29 := Aside0.mk A290
                            clear A290
                            have H' := Aside0.mk H
                            clear H
                            go_wp2_with (first | (go_at_call 12; (with_reducible refine (portierelaw04_digits.calls kj2 (Int.tmod a0 1179648) 10 t185 _ A27.out).mono ?_); rintro e w30 ⟨rfl, hb⟩; have n0_ := Aside0.mk (below_step (by repeat (first | (with_reducible first | exact HB.out | apply below_alloc | apply pw_below_drewN | apply below_drew1) | exact HB.out)) hb); clear HB; have HB := n0_; clear n0_; (try clear hb); (try clear hb2); (try clear hk); (try clear hi)) | (go_at_call 12; (with_reducible refine (portierelaw04_digits.calls kj2 (Int.tmod a0 1179648) 16 t186 _ A29.out).mono ?_); rintro e w31 ⟨rfl, hb⟩; have n0_ := Aside0.mk (below_step (by repeat (first | (with_reducible first | exact HB.out | apply below_alloc | apply pw_below_drewN | apply below_drew1) | exact HB.out)) hb); clear HB; have HB := n0_; clear n0_; (try clear hb); (try clear hb2); (try clear hk); (try clear hi)))
                            go_meet
                            case rel => exact ⟨_, ((t183 != (wrap64 (4 + (t186.size : Int))))), (by first | rfl | (simp; done) | (simp [*]; done)), H', ⟨by have := HJ2.out; first | omega | exact Nat.le_refl _⟩, ⟨by repeat (first | (with_reducible first | exact HB.out | apply below_alloc | apply pw_below_drewN | apply below_drew1) | exact HB.out)⟩⟩
                          · rw [if_neg c28] at H
                            (try (have c28u : ¬ (t179 = ((3 + (t185.size : Int)))) := by (have h_ := c28; unfold wrap64 at h_; omega)))
                            (try (have c28ub0 : (t179 == ((3 + (t185.size : Int)))) = false := beq_eq_false_iff_ne.mpr c28u))
                            (try (have c28ub1 : (t179 != ((3 + (t185.size : Int)))) = true := bne_iff_ne.mpr c28u))
                            have c28b0 : (t179 == (wrap64 (3 + (t185.size : Int)))) = false := beq_eq_false_iff_ne.mpr c28
                            have c28b1 : (t179 != (wrap64 (3 + (t185.size : Int)))) = true := bne_iff_ne.mpr c28
                            have H' := Aside0.mk H
                            clear H
                            go_wp2_with (first | (go_at_call 12; (with_reducible refine (portierelaw04_digits.calls kj2 (Int.tmod a0 1179648) 10 t185 _ A27.out).mono ?_); rintro e w32 ⟨rfl, hb⟩; have n0_ := Aside0.mk (below_step (by repeat (first | (with_reducible first | exact HB.out | apply below_alloc | apply pw_below_drewN | apply below_drew1) | exact HB.out)) hb); clear HB; have HB := n0_; clear n0_; (try clear hb); (try clear hb2); (try clear hk); (try clear hi)))
                            go_meet
                            case rel => exact ⟨_, (true), (by first | rfl | (simp; done) | (simp [*]; done)), H', ⟨by have := HJ2.out; first | omega | exact Nat.le_refl _⟩, ⟨by repeat (first | (with_reducible first | exact HB.out | apply below_alloc | apply pw_below_drewN | apply below_drew1) | exact HB.out)⟩⟩
                        · rw [if_neg c26] at H
                          have c26b0 : (t180 == t184) = false := beq_eq_false_iff_ne.mpr c26
                          have c26b1 : (t180 != t184) = true := bne_iff_ne.mpr c26
                          have H' := Aside0.mk H
                          clear H
                          go_wp2
                          go_meet
                          case rel => exact ⟨_, (true), (by first | rfl | (simp; done) | (simp [*]; done)), H', ⟨by have := HJ2.out; first | omega | exact Nat.le_refl _⟩, ⟨by repeat (first | (with_reducible first | exact HB.out | apply below_alloc | apply pw_below_drewN | apply below_drew1) | exact HB.out)⟩⟩
                      · rw [if_neg c25] at H
                        have c25b0 : (t178.toList == t182.toList) = false := beq_eq_false_iff_ne.mpr c25
                        have c25b1 : (t178.toList != t182.toList) = true := bne_iff_ne.mpr c25
                        (first | rw [c25b0] | (simp only [i64_w, i32_w]; rw [c25b0]) | skip)
                        have H' := Aside0.mk H
                        clear H
                        go_wp2
                        go_meet
                        case rel => exact ⟨_, (true), (by first | rfl | (simp; done) | (simp [*]; done)), H', ⟨by have := HJ2.out; first | omega | exact Nat.le_refl _⟩, ⟨by repeat (first | (with_reducible first | exact HB.out | apply below_alloc | apply pw_below_drewN | apply below_drew1) | exact HB.out)⟩⟩
                    case rest =>
                      clear HC20
                      try clear c1
                      try clear c2
                      try clear p2
                      try clear c4
                      try clear c4b0
                      try clear c4b1
                      try clear p6
                      try clear c7
                      try clear c10
                      try clear c11
                      try clear c11b0
                      try clear c11b1
                      try clear c11b2
                      try clear c12
                      try clear c12b0
                      try clear c12b1
                      try clear c12b2
                      try clear c13
                      try clear c13b0
                      try clear c13b1
                      try clear c13b2
                      try clear c16
                      try clear c16b0
                      try clear c16b1
                      try clear c16b2
                      try clear c17
                      try clear c17b0
                      try clear c17b1
                      try clear c17b2
                      try clear c18
                      try clear c18b0
                      try clear c18b1
                      try clear c18b2
                      try clear c25
                      try clear c25b0
                      try clear c25b1
                      try clear c26
                      try clear c26b0
                      try clear c26b1
                      try clear c28
                      try clear c28b0
                      try clear c28b1
                      try clear p2
                      obtain ⟨kq, x67_19, rfl, HA, HJ19, HB⟩ := hcut
                      cases kq with
                      | zero => exact absurd HA.out (by simp [portierelaw04_CharrefNumbers.j1])
                      | succ kj19 =>
                        have H := HA.out
                        clear HA
                        simp only [portierelaw04_CharrefNumbers.j1] at H
                        by_cases c33 : x67_19 = true
                        · subst c33
                          have H1 : (some false) = some r := by rw [if_pos rfl] at H; exact H
                          clear H
                          have H := H1
                          clear H1
                          obtain rfl := Option.some.inj H
                          go_wp2
                          go_ret
                          exact ⟨by first | rfl | (simp [errW_none, errW_some] <;> rfl) | (simp [*, errW_none, errW_some] <;> rfl), by repeat (first | (with_reducible first | exact HB.out | apply below_alloc | apply pw_below_drewN | apply below_drew1) | exact HB.out)⟩
                        · replace c33 := Bool.eq_false_iff.mpr c33
                          subst c33
                          have H1 : (if (Int.tmod a0 1179648) = 0 then (portierelaw04_CharrefNumbers.j2 kj19 (Int.tmod a0 1179648) t178 t180 true) else (if (Int.tmod a0 1179648) > 1114111 then (portierelaw04_CharrefNumbers.j2 kj19 (Int.tmod a0 1179648) t178 t180 true) else (if (Int.tmod a0 1179648) ≥ 55296 then (portierelaw04_CharrefNumbers.j2 kj19 (Int.tmod a0 1179648) t178 t180 (decide ((Int.tmod a0 1179648) ≤ 57343))) else (portierelaw04_CharrefNumbers.j2 kj19 (Int.tmod a0 1179648) t178 t180 false)))) = some r := by rw [if_neg (show ¬ (false = true) by decide)] at H; exact H
                          clear H
                          have H := H1
                          clear H1
                          have HC34 := Aside0.mk H
                          clear H
                          go_upto_region 8 with (fail)
                          go_cut [81] (fun v81 wc => ∃ (kq : Nat) (x81_33 : Bool), v81 = .bool x81_33 ∧ Aside0 (portierelaw04_CharrefNumbers.j2 kq (Int.tmod a0 1179648) t178 t180 x81_33 = some r) ∧ Aside0 (kq ≤ kj19) ∧ Aside0 (Below w.heap.size w wc))
                          case first =>
                            have H := HC34.out
                            clear HC34
                            by_cases c35 : (Int.tmod a0 1179648) = 0
                            · rw [if_pos c35] at H
                              have c35b0 : ((Int.tmod a0 1179648) == 0) = true := beq_iff_eq.mpr c35
                              have c35b1 : ((Int.tmod a0 1179648) != 0) = false := bne_eq_false_iff_eq.mpr c35
                              clear c35
                              (first | rw [c35b0] | (simp only [i64_w, i32_w]; rw [c35b0]) | skip)
                              have H' := Aside0.mk H
                              clear H
                              go_wp2
                              go_meet
                              case rel => exact ⟨_, (true), (by first | rfl | (simp; done) | (simp [*]; done)), H', ⟨by have := HJ2.out; have := HJ19.out; first | omega | exact Nat.le_refl _⟩, ⟨by repeat (first | (with_reducible first | exact HB.out | apply below_alloc | apply pw_below_drewN | apply below_drew1) | exact HB.out)⟩⟩
                            · rw [if_neg c35] at H
                              have c35b0 : ((Int.tmod a0 1179648) == 0) = false := beq_eq_false_iff_ne.mpr c35
                              have c35b1 : ((Int.tmod a0 1179648) != 0) = true := bne_iff_ne.mpr c35
                              (first | rw [c35b0] | (simp only [i64_w, i32_w]; rw [c35b0]) | skip)
                              by_cases c36 : (Int.tmod a0 1179648) > 1114111
                              · rw [if_pos c36] at H
                                have c36b0 : decide (1114111 < (Int.tmod a0 1179648)) = true := decide_eq_true c36
                                clear c36
                                have H' := Aside0.mk H
                                clear H
                                go_wp2
                                go_meet
                                case rel => exact ⟨_, (true), (by first | rfl | (simp; done) | (simp [*]; done)), H', ⟨by have := HJ2.out; have := HJ19.out; first | omega | exact Nat.le_refl _⟩, ⟨by repeat (first | (with_reducible first | exact HB.out | apply below_alloc | apply pw_below_drewN | apply below_drew1) | exact HB.out)⟩⟩
                              · rw [if_neg c36] at H
                                have c36b0 : decide (1114111 < (Int.tmod a0 1179648)) = false := decide_eq_false c36
                                clear c36
                                by_cases c37 : (Int.tmod a0 1179648) ≥ 55296
                                · rw [if_pos c37] at H
                                  have c37b0 : decide (55296 ≤ (Int.tmod a0 1179648)) = true := decide_eq_true c37
                                  clear c37
                                  have H' := Aside0.mk H
                                  clear H
                                  go_wp2
                                  go_meet
                                  case rel => exact ⟨_, (decide ((Int.tmod a0 1179648) ≤ 57343)), (by first | rfl | (simp; done) | (simp [*]; done)), H', ⟨by have := HJ2.out; have := HJ19.out; first | omega | exact Nat.le_refl _⟩, ⟨by repeat (first | (with_reducible first | exact HB.out | apply below_alloc | apply pw_below_drewN | apply below_drew1) | exact HB.out)⟩⟩
                                · rw [if_neg c37] at H
                                  have c37b0 : decide (55296 ≤ (Int.tmod a0 1179648)) = false := decide_eq_false c37
                                  clear c37
                                  have H' := Aside0.mk H
                                  clear H
                                  go_wp2
                                  go_meet
                                  case rel => exact ⟨_, (false), (by first | rfl | (simp; done) | (simp [*]; done)), H', ⟨by have := HJ2.out; have := HJ19.out; first | omega | exact Nat.le_refl _⟩, ⟨by repeat (first | (with_reducible first | exact HB.out | apply below_alloc | apply pw_below_drewN | apply below_drew1) | exact HB.out)⟩⟩
                          case rest =>
                            clear HC34
                            try clear c1
                            try clear c2
                            try clear p2
                            try clear c3
                            try clear c4
                            try clear c4b0
                            try clear c4b1
                            try clear p6
                            try clear c7
                            try clear c10
                            try clear c11
                            try clear c11b0
                            try clear c11b1
                            try clear c11b2
                            try clear c12
                            try clear c12b0
                            try clear c12b1
                            try clear c12b2
                            try clear c13
                            try clear c13b0
                            try clear c13b1
                            try clear c13b2
                            try clear c16
                            try clear c16b0
                            try clear c16b1
                            try clear c16b2
                            try clear c17
                            try clear c17b0
                            try clear c17b1
                            try clear c17b2
                            try clear c18
                            try clear c18b0
                            try clear c18b1
                            try clear c18b2
                            try clear c25
                            try clear c25b0
                            try clear c25b1
                            try clear c26
                            try clear c26b0
                            try clear c26b1
                            try clear c28
                            try clear c28b0
                            try clear c28b1
                            try clear c33
                            try clear c35
                            try clear c35b0
                            try clear c35b1
                            try clear c36
                            try clear c36b0
                            try clear c37
                            try clear c37b0
                            try clear p2
                            try clear p6
                            obtain ⟨kq, x81_33, rfl, HA, HJ33, HB⟩ := hcut
                            cases kq with
                            | zero => exact absurd HA.out (by simp [portierelaw04_CharrefNumbers.j2])
                            | succ kj33 =>
                              have H := HA.out
                              clear HA
                              simp only [portierelaw04_CharrefNumbers.j2] at H
                              by_cases c38 : x81_33 = true
                              · subst c38
                                have H1 : (if t178.toList = ([239, 191, 189] : List UInt8) then (some (t180 == 2)) else (some false)) = some r := by rw [if_pos rfl] at H; exact H
                                clear H
                                have H := H1
                                clear H1
                                by_cases c39 : t178.toList = ([239, 191, 189] : List UInt8)
                                · rw [if_pos c39] at H
                                  have c39b0 : (t178.toList == ([239, 191, 189] : List UInt8)) = true := beq_iff_eq.mpr c39
                                  have c39b1 : (t178.toList != ([239, 191, 189] : List UInt8)) = false := bne_eq_false_iff_eq.mpr c39
                                  clear c39
                                  obtain rfl := Option.some.inj H
                                  go_wp2
                                  go_ret
                                  exact ⟨by first | rfl | (simp [errW_none, errW_some] <;> rfl) | (simp [*, errW_none, errW_some] <;> rfl), by repeat (first | (with_reducible first | exact HB.out | apply below_alloc | apply pw_below_drewN | apply below_drew1) | exact HB.out)⟩
                                · rw [if_neg c39] at H
                                  have c39b0 : (t178.toList == ([239, 191, 189] : List UInt8)) = false := beq_eq_false_iff_ne.mpr c39
                                  have c39b1 : (t178.toList != ([239, 191, 189] : List UInt8)) = true := bne_iff_ne.mpr c39
                                  obtain rfl := Option.some.inj H
                                  go_wp2
                                  go_ret
                                  exact ⟨by first | rfl | (simp [errW_none, errW_some] <;> rfl) | (simp [*, errW_none, errW_some] <;> rfl), by repeat (first | (with_reducible first | exact HB.out | apply below_alloc | apply pw_below_drewN | apply below_drew1) | exact HB.out)⟩
                              · replace c38 := Bool.eq_false_iff.mpr c38
                                subst c38
                                have H1 : (if (Int.tmod a0 1179648) ≥ 128 then (if (Int.tmod a0 1179648) ≤ 159 then (some (t180 == 2)) else (if t180 = 0 then (some (t178.toList == (runesBytes (([wrap32 ((Int.tmod a0 1179648))] : List Int))).toList)) else (some false))) else (if t180 = 0 then (some (t178.toList == (runesBytes (([wrap32 ((Int.tmod a0 1179648))] : List Int))).toList)) else (some false))) = some r := by rw [if_neg (show ¬ (false = true) by decide)] at H; exact H
                                clear H
                                have H := H1
                                clear H1
                                by_cases c40 : (Int.tmod a0 1179648) ≥ 128
                                · rw [if_pos c40] at H
                                  have c40b0 : decide (128 ≤ (Int.tmod a0 1179648)) = true := decide_eq_true c40
                                  clear c40
                                  by_cases c41 : (Int.tmod a0 1179648) ≤ 159
                                  · rw [if_pos c41] at H
                                    have c41b0 : decide ((Int.tmod a0 1179648) ≤ 159) = true := decide_eq_true c41
                                    clear c41
                                    obtain rfl := Option.some.inj H
                                    go_wp2
                                    go_ret
                                    exact ⟨by first | rfl | (simp [errW_none, errW_some] <;> rfl) | (simp [*, errW_none, errW_some] <;> rfl), by repeat (first | (with_reducible first | exact HB.out | apply below_alloc | apply pw_below_drewN | apply below_drew1) | exact HB.out)⟩
                                  · rw [if_neg c41] at H
                                    have c41b0 : decide ((Int.tmod a0 1179648) ≤ 159) = false := decide_eq_false c41
                                    clear c41
                                    by_cases c42 : t180 = 0
                                    · rw [if_pos c42] at H
                                      have c42b0 : (t180 == 0) = true := beq_iff_eq.mpr c42
                                      have c42b1 : (t180 != 0) = false := bne_eq_false_iff_eq.mpr c42
                                      clear c42
                                      obtain ⟨y187, hy187⟩ : ∃ y_ : List Int, y_ = (([wrap32 ((Int.tmod a0 1179648))] : List Int)) := ⟨_, rfl⟩
                                      replace H : (some (t178.toList == (runesBytes y187).toList)) = some r := by first | (rw [hy187]; with_reducible exact H) | (have H2_ := (Option.bind_some _ _).symm.trans H; rw [hy187]; with_reducible exact H2_) | (have H2_ := (Option.bind_some _ _).symm.trans H; with_reducible exact H2_) | with_reducible exact H | (rw [hy187]; exact H) | exact H
                                      have Ny187 := Aside0.mk hy187
                                      clear hy187
                                      obtain rfl := Option.some.inj H
                                      go_wp2_with (first | ((with_reducible refine gate_dst (N := 102) rfl ?_); (try (refine gate_guard (by rfl) ?_; dsimp only)); refine Kd.R_lit (Kd.int .i32) _ 21 ?hg (N := 102) ?hd (xs := ([wrap32 ((Int.tmod a0 1179648))] : List Int)) (inner := [.int .i32 (wrap32 ((Int.tmod a0 1179648)))]) (ok := fun _ => True) (okp := fun _ => True) ?hr ?hp (fun _ hk => hk) trivial (Below.refl _ _) (Nat.le_refl _) (by simp) ?_; (case hd => rfl); (case hg => rfl); (case hr => first | (go_simp; done) | (go_simp; rfl)); (case hp => exact (Reps.one (show Kd.M (Kd.int .i32) _ _ _ (wrap32 ((Int.tmod a0 1179648))) [.int .i32 (wrap32 ((Int.tmod a0 1179648)))] from rfl) (Reps.none _ _))); intro v188 w43 ho44 hb hg_ hnew_; clear hg_ hnew_; (first | rw [← Ny187.out] at ho44 | (simp only [Int.reduceToNat] at ho44; rw [← Ny187.out] at ho44)); have n0_ := Aside0.mk (Kd.R_lower ho44 (below_size (by repeat (first | (with_reducible first | exact HB.out | apply below_alloc | apply pw_below_drewN | apply below_drew1) | exact HB.out)))); have n1_ := Aside0.mk (below_step (by repeat (first | (with_reducible first | exact HB.out | apply below_alloc | apply pw_below_drewN | apply below_drew1) | exact HB.out)) hb); clear HB; have HO189 := n0_; have HB := n1_; clear n0_ n1_; clear hb ho44; have hcv45 := own_runes (P := Try.prog) Try.underlying33 Try.underlying21 Try.underlying9 (Kd.own_of_R HO189.out)))
                                      go_ret
                                      exact ⟨by first | rfl | (simp [errW_none, errW_some] <;> rfl) | (simp [*, errW_none, errW_some] <;> rfl), by repeat (first | (with_reducible first | exact HB.out | apply below_alloc | apply pw_below_drewN | apply below_drew1) | exact HB.out)⟩
                                    · rw [if_neg c42] at H
                                      have c42b0 : (t180 == 0) = false := beq_eq_false_iff_ne.mpr c42
                                      have c42b1 : (t180 != 0) = true := bne_iff_ne.mpr c42
                                      obtain rfl := Option.some.inj H
                                      go_wp2
                                      go_ret
                                      exact ⟨by first | rfl | (simp [errW_none, errW_some] <;> rfl) | (simp [*, errW_none, errW_some] <;> rfl), by repeat (first | (with_reducible first | exact HB.out | apply below_alloc | apply pw_below_drewN | apply below_drew1) | exact HB.out)⟩
                                · rw [if_neg c40] at H
                                  have c40b0 : decide (128 ≤ (Int.tmod a0 1179648)) = false := decide_eq_false c40
                                  clear c40
                                  by_cases c46 : t180 = 0
                                  · rw [if_pos c46] at H
                                    have c46b0 : (t180 == 0) = true := beq_iff_eq.mpr c46
                                    have c46b1 : (t180 != 0) = false := bne_eq_false_iff_eq.mpr c46
                                    clear c46
                                    obtain ⟨y190, hy190⟩ : ∃ y_ : List Int, y_ = (([wrap32 ((Int.tmod a0 1179648))] : List Int)) := ⟨_, rfl⟩
                                    replace H : (some (t178.toList == (runesBytes y190).toList)) = some r := by first | (rw [hy190]; with_reducible exact H) | (have H2_ := (Option.bind_some _ _).symm.trans H; rw [hy190]; with_reducible exact H2_) | (have H2_ := (Option.bind_some _ _).symm.trans H; with_reducible exact H2_) | with_reducible exact H | (rw [hy190]; exact H) | exact H
                                    have Ny190 := Aside0.mk hy190
                                    clear hy190
                                    obtain rfl := Option.some.inj H
                                    go_wp2_with (first | ((with_reducible refine gate_dst (N := 102) rfl ?_); (try (refine gate_guard (by rfl) ?_; dsimp only)); refine Kd.R_lit (Kd.int .i32) _ 21 ?hg (N := 102) ?hd (xs := ([wrap32 ((Int.tmod a0 1179648))] : List Int)) (inner := [.int .i32 (wrap32 ((Int.tmod a0 1179648)))]) (ok := fun _ => True) (okp := fun _ => True) ?hr ?hp (fun _ hk => hk) trivial (Below.refl _ _) (Nat.le_refl _) (by simp) ?_; (case hd => rfl); (case hg => rfl); (case hr => first | (go_simp; done) | (go_simp; rfl)); (case hp => exact (Reps.one (show Kd.M (Kd.int .i32) _ _ _ (wrap32 ((Int.tmod a0 1179648))) [.int .i32 (wrap32 ((Int.tmod a0 1179648)))] from rfl) (Reps.none _ _))); intro v191 w47 ho48 hb hg_ hnew_; clear hg_ hnew_; (first | rw [← Ny190.out] at ho48 | (simp only [Int.reduceToNat] at ho48; rw [← Ny190.out] at ho48)); have n0_ := Aside0.mk (Kd.R_lower ho48 (below_size (by repeat (first | (with_reducible first | exact HB.out | apply below_alloc | apply pw_below_drewN | apply below_drew1) | exact HB.out)))); have n1_ := Aside0.mk (below_step (by repeat (first | (with_reducible first | exact HB.out | apply below_alloc | apply pw_below_drewN | apply below_drew1) | exact HB.out)) hb); clear HB; have HO192 := n0_; have HB := n1_; clear n0_ n1_; clear hb ho48; have hcv49 := own_runes (P := Try.prog) Try.underlying33 Try.underlying21 Try.underlying9 (Kd.own_of_R HO192.out)))
                                    go_ret
                                    exact ⟨by first | rfl | (simp [errW_none, errW_some] <;> rfl) | (simp [*, errW_none, errW_some] <;> rfl), by repeat (first | (with_reducible first | exact HB.out | apply below_alloc | apply pw_below_drewN | apply below_drew1) | exact HB.out)⟩
                                  · rw [if_neg c46] at H
                                    have c46b0 : (t180 == 0) = false := beq_eq_false_iff_ne.mpr c46
                                    have c46b1 : (t180 != 0) = true := bne_iff_ne.mpr c46
                                    obtain rfl := Option.some.inj H
                                    go_wp2
                                    go_ret
                                    exact ⟨by first | rfl | (simp [errW_none, errW_some] <;> rfl) | (simp [*, errW_none, errW_some] <;> rfl), by repeat (first | (with_reducible first | exact HB.out | apply below_alloc | apply pw_below_drewN | apply below_drew1) | exact HB.out)⟩
                  · rw [if_neg c18] at H
                    exact absurd H (by simp)
                · rw [if_neg c17] at H
                  exact absurd H (by simp)
              · rw [if_neg c16] at H
                exact absurd H (by simp)
            · rw [if_neg c13] at H
              exact absurd H (by simp)
          · rw [if_neg c12] at H
            exact absurd H (by simp)
        · rw [if_neg c11] at H
          exact absurd H (by simp)

/-- THE ONE PURE STATEMENT of portierelaw04_CharrefNumbers: yours. -/
def portierelaw04_CharrefNumbers.Pure : Prop := ∀ (a0 : Int) (a1 : ByteArray), (Lit.int .u32 a0).wf = true → a1.size ≤ 140737488351232 → ∃ k, portierelaw04_CharrefNumbers.f k a0 a1 = some true
theorem portierelaw04_CharrefNumbers.walk (P : portierelaw04_CharrefNumbers.Pure) (a0 : Int) (a1 : ByteArray) (w : World) (w0 : (Lit.int .u32 a0).wf = true) (w1 : a1.size ≤ 140737488351232) :
    Calls Try.prog 7 #[.int .u32 a0, .string a1] w fun e w' => e = .returned (.bool true) ∧ Below w.heap.size w w' := by
  obtain ⟨k, h⟩ := P a0 a1 w0 w1
  refine (portierelaw04_CharrefNumbers.calls k a0 a1 true w h).mono ?_
  rintro e w' ⟨rfl, hd⟩
  exact ⟨rfl, hd⟩

end Go.Proofs.Ytijjfkjihifjpaa.P
