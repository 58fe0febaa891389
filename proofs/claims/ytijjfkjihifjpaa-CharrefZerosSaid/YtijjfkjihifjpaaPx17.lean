-- Written by wip/tools/gprint.py of this session, over the kit's print. Lean checks it.
import Derived.Test.YtijjfkjihifjpaaPx0
import Derived.Test.YtijjfkjihifjpaaPx6
import Derived.Test.YtijjfkjihifjpaaPx8
import Derived.Test.YtijjfkjihifjpaaPx10
import Derived.Test.YtijjfkjihifjpaaPx14
namespace Go.Proofs.Ytijjfkjihifjpaa.P
open Go.Proofs.Ytijjfkjihifjpaa.Hand
open Go.RowKit Go.Proofs.YtijjfkjihifjpaaW.PrintWords Go.Proofs.YtijjfkjihifjpaaW.PrintLast Go.Proofs.YtijjfkjihifjpaaW.PrintMore
attribute [local go_sem] max2_int min2_int max_two min_two max_three min_three max_four min_four   -- for this text's walks alone
attribute [local go_sem] Go.IntKind.wrap_u32
set_option linter.unusedVariables false
set_option linter.unusedSimpArgs false

/-! ### portierelaw04_CharrefZeros: function 4 -/
def portierelaw04_CharrefZeros.l0 : Nat → Int → Int → ByteArray → Int → Option (Bool)
  | 0, _, _, _, _ => none
  | k + 1, x0, x1, x5, x6 => if x6 < (wrap64 (Int.tmod x1 40)) then (if x5.size + 1 ≤ 9223372036854775807 then (portierelaw04_CharrefZeros.l0 k x0 x1 (x5 ++ (⟨#[48]⟩ : ByteArray)) (wrap64 (x6 + 1))) else (none)) else ((portierelaw04_digits.f k ((x0) % 4294967296) 10).bind fun t222 => (if 2 + t222.size ≤ 9223372036854775807 then (if 2 + t222.size + 1 ≤ 9223372036854775807 then ((charref_Take.f (((⟨#[38, 35]⟩ : ByteArray) ++ t222) ++ (⟨#[59]⟩ : ByteArray)) 0 false).bind fun bt223 => (if 2 + x5.size ≤ 9223372036854775807 then (if 2 + x5.size + t222.size ≤ 9223372036854775807 then (if 2 + x5.size + t222.size + 1 ≤ 9223372036854775807 then ((charref_Take.f ((((⟨#[38, 35]⟩ : ByteArray) ++ x5) ++ t222) ++ (⟨#[59]⟩ : ByteArray)) 0 false).bind fun bt226 => (if 3 + t222.size ≤ 9223372036854775807 then (if 3 + t222.size + 9 ≤ 9223372036854775807 then ((charref_Take.f (((⟨#[38, 35, 57]⟩ : ByteArray) ++ t222) ++ (⟨#[57, 57, 57, 57, 57, 57, 57, 57, 59]⟩ : ByteArray)) 0 false).bind fun bt229 => ((portierelaw04_known.f).bind fun t232 => (if t232 = true then (if bt223.1.toList = bt226.1.toList then (if bt223.2.2 = bt226.2.2 then (if bt226.2.1 = (wrap64 ((wrap64 (3 + (x5.size : Int))) + (t222.size : Int))) then (some (bt229.1.toList == ([239, 191, 189] : List UInt8))) else (some false)) else (some false)) else (some false)) else (some false)))) else (none)) else (none))) else (none)) else (none)) else (none))) else (none)) else (none)))
def portierelaw04_CharrefZeros.f (k : Nat) (a0 : Int) (a1 : Int) : Option (Bool) := portierelaw04_CharrefZeros.l0 k a0 a1 (⟨#[]⟩ : ByteArray) 0
theorem portierelaw04_CharrefZeros.mono_l : ∀ k, (∀ y0 y1 y2 y3, LeO (portierelaw04_CharrefZeros.l0 k y0 y1 y2 y3) (portierelaw04_CharrefZeros.l0 (k + 1) y0 y1 y2 y3))
  | 0 => fun _ _ _ _ r h => by simp [portierelaw04_CharrefZeros.l0] at h
  | k + 1 => by
    have ih0 := portierelaw04_CharrefZeros.mono_l k
    · intro y0 y1 y2 y3
      unfold portierelaw04_CharrefZeros.l0
      repeat' first
      | (with_reducible exact ih0 _ _ _ _)
      | (with_reducible exact portierelaw04_digits.mono _ _ _)
      | (with_reducible exact LeO.refl _)
      | (with_reducible exact LeO.none _)
      | (with_reducible refine LeO.ite ?_ ?_)
      | (with_reducible refine LeO.bind ?_ (fun _ => ?_))
      | exact ih0 _ _ _ _
      | exact portierelaw04_digits.mono _ _ _
      | exact LeO.none _
      | refine LeO.ite ?_ ?_
      | refine LeO.bind ?_ (fun _ => ?_)
theorem portierelaw04_CharrefZeros.mono : ∀ a0 a1 k, LeO (portierelaw04_CharrefZeros.f k a0 a1) (portierelaw04_CharrefZeros.f (k + 1) a0 a1) := by
  intro a0 a1 k
  have ih0 := portierelaw04_CharrefZeros.mono_l k
  unfold portierelaw04_CharrefZeros.f
  repeat' first
      | (with_reducible exact ih0 _ _ _ _)
      | (with_reducible exact portierelaw04_digits.mono _ _ _)
      | (with_reducible exact LeO.refl _)
      | (with_reducible exact LeO.none _)
      | (with_reducible refine LeO.ite ?_ ?_)
      | (with_reducible refine LeO.bind ?_ (fun _ => ?_))
      | exact ih0 _ _ _ _
      | exact portierelaw04_digits.mono _ _ _
      | exact LeO.none _
      | refine LeO.ite ?_ ?_
      | refine LeO.bind ?_ (fun _ => ?_)
set_option maxHeartbeats 8000000 in
set_option maxRecDepth 100000 in
theorem portierelaw04_CharrefZeros.calls (k : Nat) (a0 : Int) (a1 : Int) (r : Bool) (w : World) (h : portierelaw04_CharrefZeros.f k a0 a1 = some r) :
    Calls Try.prog 4 #[.int .u16 a0, .int .u8 a1] w fun e w' => e = .returned (.bool r) ∧ Below w.heap.size w w' := by
  have HB := Aside0.mk (Below.refl w.heap.size w)
  have H : (portierelaw04_CharrefZeros.l0 k a0 a1 (⟨#[]⟩ : ByteArray) 0) = some r := h
  clear h
  have H' := Aside0.mk H
  clear H
  go_enter Try.func4, Try.ntmps4
  go_wp2
  go_loopg [5, 6] k (fun kq v5 v6 w' => ∃ (x5_1 : ByteArray) (x6_1 : Int), v5 = .string x5_1 ∧ v6 = .int .i64 x6_1 ∧ Aside0 (portierelaw04_CharrefZeros.l0 kq a0 a1 x5_1 x6_1 = some r) ∧ Aside0 (kq ≤ k) ∧ Aside0 (Below w.heap.size w w'))
  case atStart => exact ⟨((⟨#[]⟩ : ByteArray)), (0), (by first | rfl | (simp; done) | (simp [*]; done)), (by first | rfl | (simp; done) | (simp [*]; done)), H', ⟨Nat.le_refl _⟩, ⟨by repeat (first | (with_reducible first | exact HB.out | apply below_alloc | apply pw_below_drewN | apply below_drew1) | exact HB.out)⟩⟩
  case round =>
    clear H'
    try clear p2
    obtain ⟨x5_1, x6_1, rfl, rfl, HA, HK1, HB⟩ := hrel
    cases gk with
    | zero => exact absurd HA.out (by simp [portierelaw04_CharrefZeros.l0])
    | succ k1 =>
      have H := HA.out
      clear HA
      simp only [portierelaw04_CharrefZeros.l0] at H
      by_cases c3 : x6_1 < (wrap64 (Int.tmod a1 40))
      · rw [if_pos c3] at H
        (try (have c3u : (x6_1 < ((Int.tmod a1 40))) := by (have h_ := c3; unfold wrap64 at h_; omega)))
        (try (have c3ub0 : decide (x6_1 < ((Int.tmod a1 40))) = true := decide_eq_true c3u))
        (try clear c3u)
        have c3b0 : decide (x6_1 < (wrap64 (Int.tmod a1 40))) = true := decide_eq_true c3
        clear c3
        by_cases c4 : x5_1.size + 1 ≤ 9223372036854775807
        · rw [if_pos c4] at H
          have c4b0 := eq_true c4
          have c4b1 : decide (x5_1.size + 1 ≤ 9223372036854775807) = true := decide_eq_true c4
          try have c4b2 : (9223372036854775807 < x5_1.size + 1) = False := eq_false (Nat.not_lt.2 c4)
          have H' := Aside0.mk H
          clear H
          go_wp2
          go_roundg k1
          case measure => have := HK1.out; omega
          case rel => exact ⟨(x5_1 ++ (⟨#[48]⟩ : ByteArray)), (wrap64 (x6_1 + 1)), (by first | rfl | (simp; done) | (simp [*]; done)), (by first | rfl | (simp; done) | (simp [*]; done)), H', ⟨by have := HK1.out; omega⟩, ⟨by repeat (first | (with_reducible first | exact HB.out | apply below_alloc | apply pw_below_drewN | apply below_drew1) | exact HB.out)⟩⟩
        · rw [if_neg c4] at H
          exact absurd H (by simp)
      · rw [if_neg c3] at H
        (try (have c3u : ¬ (x6_1 < ((Int.tmod a1 40))) := by (have h_ := c3; unfold wrap64 at h_; omega)))
        (try (have c3ub0 : decide (x6_1 < ((Int.tmod a1 40))) = false := decide_eq_false c3u))
        (try clear c3u)
        have c3b0 : decide (x6_1 < (wrap64 (Int.tmod a1 40))) = false := decide_eq_false c3
        clear c3
        replace H := Option.bind_eq_some_iff.mp H
        obtain ⟨t222, A50, H⟩ := H
        replace H : (if 2 + t222.size ≤ 9223372036854775807 then (if 2 + t222.size + 1 ≤ 9223372036854775807 then ((charref_Take.f (((⟨#[38, 35]⟩ : ByteArray) ++ t222) ++ (⟨#[59]⟩ : ByteArray)) 0 false).bind fun bt223 => (if 2 + x5_1.size ≤ 9223372036854775807 then (if 2 + x5_1.size + t222.size ≤ 9223372036854775807 then (if 2 + x5_1.size + t222.size + 1 ≤ 9223372036854775807 then ((charref_Take.f ((((⟨#[38, 35]⟩ : ByteArray) ++ x5_1) ++ t222) ++ (⟨#[59]⟩ : ByteArray)) 0 false).bind fun bt226 => (if 3 + t222.size ≤ 9223372036854775807 then (if 3 + t222.size + 9 ≤ 9223372036854775807 then ((charref_Take.f (((⟨#[38, 35, 57]⟩ : ByteArray) ++ t222) ++ (⟨#[57, 57, 57, 57, 57, 57, 57, 57, 59]⟩ : ByteArray)) 0 false).bind fun bt229 => ((portierelaw04_known.f).bind fun t232 => (if t232 = true then (if bt223.1.toList = bt226.1.toList then (if bt223.2.2 = bt226.2.2 then (if bt226.2.1 = (wrap64 ((wrap64 (3 + (x5_1.size : Int))) + (t222.size : Int))) then (some (bt229.1.toList == ([239, 191, 189] : List UInt8))) else (some false)) else (some false)) else (some false)) else (some false)))) else (none)) else (none))) else (none)) else (none)) else (none))) else (none)) else (none)) = some r := H
        have A5 := Aside0.mk A50
        clear A50
        by_cases c6 : 2 + t222.size ≤ 9223372036854775807
        · rw [if_pos c6] at H
          have c6b0 := eq_true c6
          have c6b1 : decide (2 + t222.size ≤ 9223372036854775807) = true := decide_eq_true c6
          try have c6b2 : (9223372036854775807 < 2 + t222.size) = False := eq_false (Nat.not_lt.2 c6)
          by_cases c7 : 2 + t222.size + 1 ≤ 9223372036854775807
          · rw [if_pos c7] at H
            have c7b0 := eq_true c7
            have c7b1 : decide (2 + t222.size + 1 ≤ 9223372036854775807) = true := decide_eq_true c7
            try have c7b2 : (9223372036854775807 < 2 + t222.size + 1) = False := eq_false (Nat.not_lt.2 c7)
            replace H := Option.bind_eq_some_iff.mp H
            obtain ⟨⟨t223, t224, t225⟩, A80, H⟩ := H
            replace H : (if 2 + x5_1.size ≤ 9223372036854775807 then (if 2 + x5_1.size + t222.size ≤ 9223372036854775807 then (if 2 + x5_1.size + t222.size + 1 ≤ 9223372036854775807 then ((charref_Take.f ((((⟨#[38, 35]⟩ : ByteArray) ++ x5_1) ++ t222) ++ (⟨#[59]⟩ : ByteArray)) 0 false).bind fun bt226 => (if 3 + t222.size ≤ 9223372036854775807 then (if 3 + t222.size + 9 ≤ 9223372036854775807 then ((charref_Take.f (((⟨#[38, 35, 57]⟩ : ByteArray) ++ t222) ++ (⟨#[57, 57, 57, 57, 57, 57, 57, 57, 59]⟩ : ByteArray)) 0 false).bind fun bt229 => ((portierelaw04_known.f).bind fun t232 => (if t232 = true then (if t223.toList = bt226.1.toList then (if t225 = bt226.2.2 then (if bt226.2.1 = (wrap64 ((wrap64 (3 + (x5_1.size : Int))) + (t222.size : Int))) then (some (bt229.1.toList == ([239, 191, 189] : List UInt8))) else (some false)) else (some false)) else (some false)) else (some false)))) else (none)) else (none))) else (none)) else (none)) else (none)) = some r := H
            have A8 := Aside0.mk A80
            clear A80
            by_cases c9 : 2 + x5_1.size ≤ 9223372036854775807
            · rw [if_pos c9] at H
              have c9b0 := eq_true c9
              have c9b1 : decide (2 + x5_1.size ≤ 9223372036854775807) = true := decide_eq_true c9
              try have c9b2 : (9223372036854775807 < 2 + x5_1.size) = False := eq_false (Nat.not_lt.2 c9)
              by_cases c10 : 2 + x5_1.size + t222.size ≤ 9223372036854775807
              · rw [if_pos c10] at H
                have c10b0 := eq_true c10
                have c10b1 : decide (2 + x5_1.size + t222.size ≤ 9223372036854775807) = true := decide_eq_true c10
                try have c10b2 : (9223372036854775807 < 2 + x5_1.size + t222.size) = False := eq_false (Nat.not_lt.2 c10)
                by_cases c11 : 2 + x5_1.size + t222.size + 1 ≤ 9223372036854775807
                · rw [if_pos c11] at H
                  have c11b0 := eq_true c11
                  have c11b1 : decide (2 + x5_1.size + t222.size + 1 ≤ 9223372036854775807) = true := decide_eq_true c11
                  try have c11b2 : (9223372036854775807 < 2 + x5_1.size + t222.size + 1) = False := eq_false (Nat.not_lt.2 c11)
                  replace H := Option.bind_eq_some_iff.mp H
                  obtain ⟨⟨t226, t227, t228⟩, A120, H⟩ := H
                  replace H : (if 3 + t222.size ≤ 9223372036854775807 then (if 3 + t222.size + 9 ≤ 9223372036854775807 then ((charref_Take.f (((⟨#[38, 35, 57]⟩ : ByteArray) ++ t222) ++ (⟨#[57, 57, 57, 57, 57, 57, 57, 57, 59]⟩ : ByteArray)) 0 false).bind fun bt229 => ((portierelaw04_known.f).bind fun t232 => (if t232 = true then (if t223.toList = t226.toList then (if t225 = t228 then (if t227 = (wrap64 ((wrap64 (3 + (x5_1.size : Int))) + (t222.size : Int))) then (some (bt229.1.toList == ([239, 191, 189] : List UInt8))) else (some false)) else (some false)) else (some false)) else (some false)))) else (none)) else (none)) = some r := H
                  have A12 := Aside0.mk A120
                  clear A120
                  by_cases c13 : 3 + t222.size ≤ 9223372036854775807
                  · rw [if_pos c13] at H
                    have c13b0 := eq_true c13
                    have c13b1 : decide (3 + t222.size ≤ 9223372036854775807) = true := decide_eq_true c13
                    try have c13b2 : (9223372036854775807 < 3 + t222.size) = False := eq_false (Nat.not_lt.2 c13)
                    by_cases c14 : 3 + t222.size + 9 ≤ 9223372036854775807
                    · rw [if_pos c14] at H
                      have c14b0 := eq_true c14
                      have c14b1 : decide (3 + t222.size + 9 ≤ 9223372036854775807) = true := decide_eq_true c14
                      try have c14b2 : (9223372036854775807 < 3 + t222.size + 9) = False := eq_false (Nat.not_lt.2 c14)
                      replace H := Option.bind_eq_some_iff.mp H
                      obtain ⟨⟨t229, t230, t231⟩, A150, H⟩ := H
                      replace H : ((portierelaw04_known.f).bind fun t232 => (if t232 = true then (if t223.toList = t226.toList then (if t225 = t228 then (if t227 = (wrap64 ((wrap64 (3 + (x5_1.size : Int))) + (t222.size : Int))) then (some (t229.toList == ([239, 191, 189] : List UInt8))) else (some false)) else (some false)) else (some false)) else (some false))) = some r := H
                      have A15 := Aside0.mk A150
                      clear A150
                      replace H := Option.bind_eq_some_iff.mp H
                      obtain ⟨t232, A160, H⟩ := H
                      replace H : (if t232 = true then (if t223.toList = t226.toList then (if t225 = t228 then (if t227 = (wrap64 ((wrap64 (3 + (x5_1.size : Int))) + (t222.size : Int))) then (some (t229.toList == ([239, 191, 189] : List UInt8))) else (some false)) else (some false)) else (some false)) else (some false)) = some r := H
                      have A16 := Aside0.mk A160
                      clear A160
                      by_cases c17 : t232 = true
                      · subst c17
                        have H1 : (if t223.toList = t226.toList then (if t225 = t228 then (if t227 = (wrap64 ((wrap64 (3 + (x5_1.size : Int))) + (t222.size : Int))) then (some (t229.toList == ([239, 191, 189] : List UInt8))) else (some false)) else (some false)) else (some false)) = some r := by rw [if_pos rfl] at H; exact H
                        clear H
                        have H := H1
                        clear H1
                        by_cases c18 : t223.toList = t226.toList
                        · rw [if_pos c18] at H
                          have c18b0 : (t223.toList == t226.toList) = true := beq_iff_eq.mpr c18
                          have c18b1 : (t223.toList != t226.toList) = false := bne_eq_false_iff_eq.mpr c18
                          clear c18
                          by_cases c19 : t225 = t228
                          · rw [if_pos c19] at H
                            have c19b0 : (t225 == t228) = true := beq_iff_eq.mpr c19
                            have c19b1 : (t225 != t228) = false := bne_eq_false_iff_eq.mpr c19
                            clear c19
                            by_cases c20 : t227 = (wrap64 ((wrap64 (3 + (x5_1.size : Int))) + (t222.size : Int)))
                            · rw [if_pos c20] at H
                              (try (have c20u : (t227 = ((((3 + (x5_1.size : Int))) + (t222.size : Int)))) := by (have h_ := c20; unfold wrap64 at h_; omega)))
                              (try (have c20ub0 : (t227 == ((((3 + (x5_1.size : Int))) + (t222.size : Int)))) = true := beq_iff_eq.mpr c20u))
                              (try (have c20ub1 : (t227 != ((((3 + (x5_1.size : Int))) + (t222.size : Int)))) = false := bne_eq_false_iff_eq.mpr c20u))
                              (try clear c20u)
                              have c20b0 : (t227 == (wrap64 ((wrap64 (3 + (x5_1.size : Int))) + (t222.size : Int)))) = true := beq_iff_eq.mpr c20
                              have c20b1 : (t227 != (wrap64 ((wrap64 (3 + (x5_1.size : Int))) + (t222.size : Int)))) = false := bne_eq_false_iff_eq.mpr c20
                              clear c20
                              obtain rfl := Option.some.inj H
                              go_wp2_with (first | ((with_reducible refine gate_callee (f := 12) rfl ?_); refine goesL_ (some 28) rfl rfl Try.func12 (by kernel_rfl) rfl #[.int .u32 ((a0) % 4294967296), .int .u32 10] rfl (by (try simp only [List.map_toArray, List.map_cons, List.map_nil]); first | done | rfl | (simp only [List.length_drop, List.length_take]; rfl)) ?_; (with_reducible refine (portierelaw04_digits.calls k1 ((a0) % 4294967296) 10 t222 _ A5.out).mono ?_); rintro e w21 ⟨rfl, hb⟩; refine ⟨_, rfl, ?_⟩; have n0_ := Aside0.mk (below_step (by repeat (first | (with_reducible first | exact HB.out | apply below_alloc | apply pw_below_drewN | apply below_drew1) | exact HB.out)) hb); clear HB; have HB := n0_; clear n0_; (try clear hb); (try clear hb2); (try clear hk); (try clear hi)) | ((with_reducible refine gate_callee (f := 13) rfl ?_); refine goesL_ (some 33) rfl rfl Try.func13 (by kernel_rfl) rfl #[.string (((⟨#[38, 35]⟩ : ByteArray) ++ t222) ++ (⟨#[59]⟩ : ByteArray)), .int .i64 0, .bool false] rfl (by (try simp only [List.map_toArray, List.map_cons, List.map_nil]); first | done | rfl | (simp only [List.length_drop, List.length_take]; rfl)) ?_; (with_reducible refine (charref_Take.calls (((⟨#[38, 35]⟩ : ByteArray) ++ t222) ++ (⟨#[59]⟩ : ByteArray)) 0 false t223 t224 t225 _ A8.out).mono ?_); rintro e w22 ⟨rfl, hb⟩; refine ⟨_, rfl, ?_⟩; have n0_ := Aside0.mk (below_step (by repeat (first | (with_reducible first | exact HB.out | apply below_alloc | apply pw_below_drewN | apply below_drew1) | exact HB.out)) hb); clear HB; have HB := n0_; clear n0_; (try clear hb); (try clear hb2); (try clear hk); (try clear hi)) | ((with_reducible refine gate_callee (f := 13) rfl ?_); refine goesL_ (some 43) rfl rfl Try.func13 (by kernel_rfl) rfl #[.string ((((⟨#[38, 35]⟩ : ByteArray) ++ x5_1) ++ t222) ++ (⟨#[59]⟩ : ByteArray)), .int .i64 0, .bool false] rfl (by (try simp only [List.map_toArray, List.map_cons, List.map_nil]); first | done | rfl | (simp only [List.length_drop, List.length_take]; rfl)) ?_; (with_reducible refine (charref_Take.calls ((((⟨#[38, 35]⟩ : ByteArray) ++ x5_1) ++ t222) ++ (⟨#[59]⟩ : ByteArray)) 0 false t226 t227 t228 _ A12.out).mono ?_); rintro e w23 ⟨rfl, hb⟩; refine ⟨_, rfl, ?_⟩; have n0_ := Aside0.mk (below_step (by repeat (first | (with_reducible first | exact HB.out | apply below_alloc | apply pw_below_drewN | apply below_drew1) | exact HB.out)) hb); clear HB; have HB := n0_; clear n0_; (try clear hb); (try clear hb2); (try clear hk); (try clear hi)) | ((with_reducible refine gate_callee (f := 13) rfl ?_); refine goesL_ (some 51) rfl rfl Try.func13 (by kernel_rfl) rfl #[.string (((⟨#[38, 35, 57]⟩ : ByteArray) ++ t222) ++ (⟨#[57, 57, 57, 57, 57, 57, 57, 57, 59]⟩ : ByteArray)), .int .i64 0, .bool false] rfl (by (try simp only [List.map_toArray, List.map_cons, List.map_nil]); first | done | rfl | (simp only [List.length_drop, List.length_take]; rfl)) ?_; (with_reducible refine (charref_Take.calls (((⟨#[38, 35, 57]⟩ : ByteArray) ++ t222) ++ (⟨#[57, 57, 57, 57, 57, 57, 57, 57, 59]⟩ : ByteArray)) 0 false t229 t230 t231 _ A15.out).mono ?_); rintro e w24 ⟨rfl, hb⟩; refine ⟨_, rfl, ?_⟩; have n0_ := Aside0.mk (below_step (by repeat (first | (with_reducible first | exact HB.out | apply below_alloc | apply pw_below_drewN | apply below_drew1) | exact HB.out)) hb); clear HB; have HB := n0_; clear n0_; (try clear hb); (try clear hb2); (try clear hk); (try clear hi)) | ((with_reducible refine gate_callee (f := 10) rfl ?_); refine goesL_ (some 55) rfl rfl Try.func10 (by kernel_rfl) rfl #[] rfl (by (try simp only [List.map_toArray, List.map_cons, List.map_nil]); first | done | rfl | (simp only [List.length_drop, List.length_take]; rfl)) ?_; (with_reducible refine (portierelaw04_known.calls  true _ A16.out).mono ?_); rintro e w25 ⟨rfl, hb⟩; refine ⟨_, rfl, ?_⟩; have n0_ := Aside0.mk (below_step (by repeat (first | (with_reducible first | exact HB.out | apply below_alloc | apply pw_below_drewN | apply below_drew1) | exact HB.out)) hb); clear HB; have HB := n0_; clear n0_; (try clear hb); (try clear hb2); (try clear hk); (try clear hi)))
                              go_ret
                              exact ⟨by first | rfl | (simp [errW_none, errW_some] <;> rfl) | (simp [*, errW_none, errW_some] <;> rfl), by repeat (first | (with_reducible first | exact HB.out | apply below_alloc | apply pw_below_drewN | apply below_drew1) | exact HB.out)⟩
                            · rw [if_neg c20] at H
                              (try (have c20u : ¬ (t227 = ((((3 + (x5_1.size : Int))) + (t222.size : Int)))) := by (have h_ := c20; unfold wrap64 at h_; omega)))
                              (try (have c20ub0 : (t227 == ((((3 + (x5_1.size : Int))) + (t222.size : Int)))) = false := beq_eq_false_iff_ne.mpr c20u))
                              (try (have c20ub1 : (t227 != ((((3 + (x5_1.size : Int))) + (t222.size : Int)))) = true := bne_iff_ne.mpr c20u))
                              have c20b0 : (t227 == (wrap64 ((wrap64 (3 + (x5_1.size : Int))) + (t222.size : Int)))) = false := beq_eq_false_iff_ne.mpr c20
                              have c20b1 : (t227 != (wrap64 ((wrap64 (3 + (x5_1.size : Int))) + (t222.size : Int)))) = true := bne_iff_ne.mpr c20
                              obtain rfl := Option.some.inj H
                              go_wp2_with (first | ((with_reducible refine gate_callee (f := 12) rfl ?_); refine goesL_ (some 28) rfl rfl Try.func12 (by kernel_rfl) rfl #[.int .u32 ((a0) % 4294967296), .int .u32 10] rfl (by (try simp only [List.map_toArray, List.map_cons, List.map_nil]); first | done | rfl | (simp only [List.length_drop, List.length_take]; rfl)) ?_; (with_reducible refine (portierelaw04_digits.calls k1 ((a0) % 4294967296) 10 t222 _ A5.out).mono ?_); rintro e w26 ⟨rfl, hb⟩; refine ⟨_, rfl, ?_⟩; have n0_ := Aside0.mk (below_step (by repeat (first | (with_reducible first | exact HB.out | apply below_alloc | apply pw_below_drewN | apply below_drew1) | exact HB.out)) hb); clear HB; have HB := n0_; clear n0_; (try clear hb); (try clear hb2); (try clear hk); (try clear hi)) | ((with_reducible refine gate_callee (f := 13) rfl ?_); refine goesL_ (some 33) rfl rfl Try.func13 (by kernel_rfl) rfl #[.string (((⟨#[38, 35]⟩ : ByteArray) ++ t222) ++ (⟨#[59]⟩ : ByteArray)), .int .i64 0, .bool false] rfl (by (try simp only [List.map_toArray, List.map_cons, List.map_nil]); first | done | rfl | (simp only [List.length_drop, List.length_take]; rfl)) ?_; (with_reducible refine (charref_Take.calls (((⟨#[38, 35]⟩ : ByteArray) ++ t222) ++ (⟨#[59]⟩ : ByteArray)) 0 false t223 t224 t225 _ A8.out).mono ?_); rintro e w27 ⟨rfl, hb⟩; refine ⟨_, rfl, ?_⟩; have n0_ := Aside0.mk (below_step (by repeat (first | (with_reducible first | exact HB.out | apply below_alloc | apply pw_below_drewN | apply below_drew1) | exact HB.out)) hb); clear HB; have HB := n0_; clear n0_; (try clear hb); (try clear hb2); (try clear hk); (try clear hi)) | ((with_reducible refine gate_callee (f := 13) rfl ?_); refine goesL_ (some 43) rfl rfl Try.func13 (by kernel_rfl) rfl #[.string ((((⟨#[38, 35]⟩ : ByteArray) ++ x5_1) ++ t222) ++ (⟨#[59]⟩ : ByteArray)), .int .i64 0, .bool false] rfl (by (try simp only [List.map_toArray, List.map_cons, List.map_nil]); first | done | rfl | (simp only [List.length_drop, List.length_take]; rfl)) ?_; (with_reducible refine (charref_Take.calls ((((⟨#[38, 35]⟩ : ByteArray) ++ x5_1) ++ t222) ++ (⟨#[59]⟩ : ByteArray)) 0 false t226 t227 t228 _ A12.out).mono ?_); rintro e w28 ⟨rfl, hb⟩; refine ⟨_, rfl, ?_⟩; have n0_ := Aside0.mk (below_step (by repeat (first | (with_reducible first | exact HB.out | apply below_alloc | apply pw_below_drewN | apply below_drew1) | exact HB.out)) hb); clear HB; have HB := n0_; clear n0_; (try clear hb); (try clear hb2); (try clear hk); (try clear hi)) | ((with_reducible refine gate_callee (f := 13) rfl ?_); refine goesL_ (some 51) rfl rfl Try.func13 (by kernel_rfl) rfl #[.string (((⟨#[38, 35, 57]⟩ : ByteArray) ++ t222) ++ (⟨#[57, 57, 57, 57, 57, 57, 57, 57, 59]⟩ : ByteArray)), .int .i64 0, .bool false] rfl (by (try simp only [List.map_toArray, List.map_cons, List.map_nil]); first | done | rfl | (simp only [List.length_drop, List.length_take]; rfl)) ?_; (with_reducible refine (charref_Take.calls (((⟨#[38, 35, 57]⟩ : ByteArray) ++ t222) ++ (⟨#[57, 57, 57, 57, 57, 57, 57, 57, 59]⟩ : ByteArray)) 0 false t229 t230 t231 _ A15.out).mono ?_); rintro e w29 ⟨rfl, hb⟩; refine ⟨_, rfl, ?_⟩; have n0_ := Aside0.mk (below_step (by repeat (first | (with_reducible first | exact HB.out | apply below_alloc | apply pw_below_drewN | apply below_drew1) | exact HB.out)) hb); clear HB; have HB := n0_; clear n0_; (try clear hb); (try clear hb2); (try clear hk); (try clear hi)) | ((with_reducible refine gate_callee (f := 10) rfl ?_); refine goesL_ (some 55) rfl rfl Try.func10 (by kernel_rfl) rfl #[] rfl (by (try simp only [List.map_toArray, List.map_cons, List.map_nil]); first | done | rfl | (simp only [List.length_drop, List.length_take]; rfl)) ?_; (with_reducible refine (portierelaw04_known.calls  true _ A16.out).mono ?_); rintro e w30 ⟨rfl, hb⟩; refine ⟨_, rfl, ?_⟩; have n0_ := Aside0.mk (below_step (by repeat (first | (with_reducible first | exact HB.out | apply below_alloc | apply pw_below_drewN | apply below_drew1) | exact HB.out)) hb); clear HB; have HB := n0_; clear n0_; (try clear hb); (try clear hb2); (try clear hk); (try clear hi)))
                              go_ret
                              exact ⟨by first | rfl | (simp [errW_none, errW_some] <;> rfl) | (simp [*, errW_none, errW_some] <;> rfl), by repeat (first | (with_reducible first | exact HB.out | apply below_alloc | apply pw_below_drewN | apply below_drew1) | exact HB.out)⟩
                          · rw [if_neg c19] at H
                            have c19b0 : (t225 == t228) = false := beq_eq_false_iff_ne.mpr c19
                            have c19b1 : (t225 != t228) = true := bne_iff_ne.mpr c19
                            obtain rfl := Option.some.inj H
                            go_wp2_with (first | ((with_reducible refine gate_callee (f := 12) rfl ?_); refine goesL_ (some 28) rfl rfl Try.func12 (by kernel_rfl) rfl #[.int .u32 ((a0) % 4294967296), .int .u32 10] rfl (by (try simp only [List.map_toArray, List.map_cons, List.map_nil]); first | done | rfl | (simp only [List.length_drop, List.length_take]; rfl)) ?_; (with_reducible refine (portierelaw04_digits.calls k1 ((a0) % 4294967296) 10 t222 _ A5.out).mono ?_); rintro e w31 ⟨rfl, hb⟩; refine ⟨_, rfl, ?_⟩; have n0_ := Aside0.mk (below_step (by repeat (first | (with_reducible first | exact HB.out | apply below_alloc | apply pw_below_drewN | apply below_drew1) | exact HB.out)) hb); clear HB; have HB := n0_; clear n0_; (try clear hb); (try clear hb2); (try clear hk); (try clear hi)) | ((with_reducible refine gate_callee (f := 13) rfl ?_); refine goesL_ (some 33) rfl rfl Try.func13 (by kernel_rfl) rfl #[.string (((⟨#[38, 35]⟩ : ByteArray) ++ t222) ++ (⟨#[59]⟩ : ByteArray)), .int .i64 0, .bool false] rfl (by (try simp only [List.map_toArray, List.map_cons, List.map_nil]); first | done | rfl | (simp only [List.length_drop, List.length_take]; rfl)) ?_; (with_reducible refine (charref_Take.calls (((⟨#[38, 35]⟩ : ByteArray) ++ t222) ++ (⟨#[59]⟩ : ByteArray)) 0 false t223 t224 t225 _ A8.out).mono ?_); rintro e w32 ⟨rfl, hb⟩; refine ⟨_, rfl, ?_⟩; have n0_ := Aside0.mk (below_step (by repeat (first | (with_reducible first | exact HB.out | apply below_alloc | apply pw_below_drewN | apply below_drew1) | exact HB.out)) hb); clear HB; have HB := n0_; clear n0_; (try clear hb); (try clear hb2); (try clear hk); (try clear hi)) | ((with_reducible refine gate_callee (f := 13) rfl ?_); refine goesL_ (some 43) rfl rfl Try.func13 (by kernel_rfl) rfl #[.string ((((⟨#[38, 35]⟩ : ByteArray) ++ x5_1) ++ t222) ++ (⟨#[59]⟩ : ByteArray)), .int .i64 0, .bool false] rfl (by (try simp only [List.map_toArray, List.map_cons, List.map_nil]); first | done | rfl | (simp only [List.length_drop, List.length_take]; rfl)) ?_; (with_reducible refine (charref_Take.calls ((((⟨#[38, 35]⟩ : ByteArray) ++ x5_1) ++ t222) ++ (⟨#[59]⟩ : ByteArray)) 0 false t226 t227 t228 _ A12.out).mono ?_); rintro e w33 ⟨rfl, hb⟩; refine ⟨_, rfl, ?_⟩; have n0_ := Aside0.mk (below_step (by repeat (first | (with_reducible first | exact HB.out | apply below_alloc | apply pw_below_drewN | apply below_drew1) | exact HB.out)) hb); clear HB; have HB := n0_; clear n0_; (try clear hb); (try clear hb2); (try clear hk); (try clear hi)) | ((with_reducible refine gate_callee (f := 13) rfl ?_); refine goesL_ (some 51) rfl rfl Try.func13 (by kernel_rfl) rfl #[.string (((⟨#[38, 35, 57]⟩ : ByteArray) ++ t222) ++ (⟨#[57, 57, 57, 57, 57, 57, 57, 57, 59]⟩ : ByteArray)), .int .i64 0, .bool false] rfl (by (try simp only [List.map_toArray, List.map_cons, List.map_nil]); first | done | rfl | (simp only [List.length_drop, List.length_take]; rfl)) ?_; (with_reducible refine (charref_Take.calls (((⟨#[38, 35, 57]⟩ : ByteArray) ++ t222) ++ (⟨#[57, 57, 57, 57, 57, 57, 57, 57, 59]⟩ : ByteArray)) 0 false t229 t230 t231 _ A15.out).mono ?_); rintro e w34 ⟨rfl, hb⟩; refine ⟨_, rfl, ?_⟩; have n0_ := Aside0.mk (below_step (by repeat (first | (with_reducible first | exact HB.out | apply below_alloc | apply pw_below_drewN | apply below_drew1) | exact HB.out)) hb); clear HB; have HB := n0_; clear n0_; (try clear hb); (try clear hb2); (try clear hk); (try clear hi)) | ((with_reducible refine gate_callee (f := 10) rfl ?_); refine goesL_ (some 55) rfl rfl Try.func10 (by kernel_rfl) rfl #[] rfl (by (try simp only [List.map_toArray, List.map_cons, List.map_nil]); first | done | rfl | (simp only [List.length_drop, List.length_take]; rfl)) ?_; (with_reducible refine (portierelaw04_known.calls  true _ A16.out).mono ?_); rintro e w35 ⟨rfl, hb⟩; refine ⟨_, rfl, ?_⟩; have n0_ := Aside0.mk (below_step (by repeat (first | (with_reducible first | exact HB.out | apply below_alloc | apply pw_below_drewN | apply below_drew1) | exact HB.out)) hb); clear HB; have HB := n0_; clear n0_; (try clear hb); (try clear hb2); (try clear hk); (try clear hi)))
                            go_ret
                            exact ⟨by first | rfl | (simp [errW_none, errW_some] <;> rfl) | (simp [*, errW_none, errW_some] <;> rfl), by repeat (first | (with_reducible first | exact HB.out | apply below_alloc | apply pw_below_drewN | apply below_drew1) | exact HB.out)⟩
                        · rw [if_neg c18] at H
                          have c18b0 : (t223.toList == t226.toList) = false := beq_eq_false_iff_ne.mpr c18
                          have c18b1 : (t223.toList != t226.toList) = true := bne_iff_ne.mpr c18
                          obtain rfl := Option.some.inj H
                          go_wp2_with (first | ((with_reducible refine gate_callee (f := 12) rfl ?_); refine goesL_ (some 28) rfl rfl Try.func12 (by kernel_rfl) rfl #[.int .u32 ((a0) % 4294967296), .int .u32 10] rfl (by (try simp only [List.map_toArray, List.map_cons, List.map_nil]); first | done | rfl | (simp only [List.length_drop, List.length_take]; rfl)) ?_; (with_reducible refine (portierelaw04_digits.calls k1 ((a0) % 4294967296) 10 t222 _ A5.out).mono ?_); rintro e w36 ⟨rfl, hb⟩; refine ⟨_, rfl, ?_⟩; have n0_ := Aside0.mk (below_step (by repeat (first | (with_reducible first | exact HB.out | apply below_alloc | apply pw_below_drewN | apply below_drew1) | exact HB.out)) hb); clear HB; have HB := n0_; clear n0_; (try clear hb); (try clear hb2); (try clear hk); (try clear hi)) | ((with_reducible refine gate_callee (f := 13) rfl ?_); refine goesL_ (some 33) rfl rfl Try.func13 (by kernel_rfl) rfl #[.string (((⟨#[38, 35]⟩ : ByteArray) ++ t222) ++ (⟨#[59]⟩ : ByteArray)), .int .i64 0, .bool false] rfl (by (try simp only [List.map_toArray, List.map_cons, List.map_nil]); first | done | rfl | (simp only [List.length_drop, List.length_take]; rfl)) ?_; (with_reducible refine (charref_Take.calls (((⟨#[38, 35]⟩ : ByteArray) ++ t222) ++ (⟨#[59]⟩ : ByteArray)) 0 false t223 t224 t225 _ A8.out).mono ?_); rintro e w37 ⟨rfl, hb⟩; refine ⟨_, rfl, ?_⟩; have n0_ := Aside0.mk (below_step (by repeat (first | (with_reducible first | exact HB.out | apply below_alloc | apply pw_below_drewN | apply below_drew1) | exact HB.out)) hb); clear HB; have HB := n0_; clear n0_; (try clear hb); (try clear hb2); (try clear hk); (try clear hi)) | ((with_reducible refine gate_callee (f := 13) rfl ?_); refine goesL_ (some 43) rfl rfl Try.func13 (by kernel_rfl) rfl #[.string ((((⟨#[38, 35]⟩ : ByteArray) ++ x5_1) ++ t222) ++ (⟨#[59]⟩ : ByteArray)), .int .i64 0, .bool false] rfl (by (try simp only [List.map_toArray, List.map_cons, List.map_nil]); first | done | rfl | (simp only [List.length_drop, List.length_take]; rfl)) ?_; (with_reducible refine (charref_Take.calls ((((⟨#[38, 35]⟩ : ByteArray) ++ x5_1) ++ t222) ++ (⟨#[59]⟩ : ByteArray)) 0 false t226 t227 t228 _ A12.out).mono ?_); rintro e w38 ⟨rfl, hb⟩; refine ⟨_, rfl, ?_⟩; have n0_ := Aside0.mk (below_step (by repeat (first | (with_reducible first | exact HB.out | apply below_alloc | apply pw_below_drewN | apply below_drew1) | exact HB.out)) hb); clear HB; have HB := n0_; clear n0_; (try clear hb); (try clear hb2); (try clear hk); (try clear hi)) | ((with_reducible refine gate_callee (f := 13) rfl ?_); refine goesL_ (some 51) rfl rfl Try.func13 (by kernel_rfl) rfl #[.string (((⟨#[38, 35, 57]⟩ : ByteArray) ++ t222) ++ (⟨#[57, 57, 57, 57, 57, 57, 57, 57, 59]⟩ : ByteArray)), .int .i64 0, .bool false] rfl (by (try simp only [List.map_toArray, List.map_cons, List.map_nil]); first | done | rfl | (simp only [List.length_drop, List.length_take]; rfl)) ?_; (with_reducible refine (charref_Take.calls (((⟨#[38, 35, 57]⟩ : ByteArray) ++ t222) ++ (⟨#[57, 57, 57, 57, 57, 57, 57, 57, 59]⟩ : ByteArray)) 0 false t229 t230 t231 _ A15.out).mono ?_); rintro e w39 ⟨rfl, hb⟩; refine ⟨_, rfl, ?_⟩; have n0_ := Aside0.mk (below_step (by repeat (first | (with_reducible first | exact HB.out | apply below_alloc | apply pw_below_drewN | apply below_drew1) | exact HB.out)) hb); clear HB; have HB := n0_; clear n0_; (try clear hb); (try clear hb2); (try clear hk); (try clear hi)) | ((with_reducible refine gate_callee (f := 10) rfl ?_); refine goesL_ (some 55) rfl rfl Try.func10 (by kernel_rfl) rfl #[] rfl (by (try simp only [List.map_toArray, List.map_cons, List.map_nil]); first | done | rfl | (simp only [List.length_drop, List.length_take]; rfl)) ?_; (with_reducible refine (portierelaw04_known.calls  true _ A16.out).mono ?_); rintro e w40 ⟨rfl, hb⟩; refine ⟨_, rfl, ?_⟩; have n0_ := Aside0.mk (below_step (by repeat (first | (with_reducible first | exact HB.out | apply below_alloc | apply pw_below_drewN | apply below_drew1) | exact HB.out)) hb); clear HB; have HB := n0_; clear n0_; (try clear hb); (try clear hb2); (try clear hk); (try clear hi)))
                          go_ret
                          exact ⟨by first | rfl | (simp [errW_none, errW_some] <;> rfl) | (simp [*, errW_none, errW_some] <;> rfl), by repeat (first | (with_reducible first | exact HB.out | apply below_alloc | apply pw_below_drewN | apply below_drew1) | exact HB.out)⟩
                      · replace c17 := Bool.eq_false_iff.mpr c17
                        subst c17
                        have H1 : (some false) = some r := by rw [if_neg (show ¬ (false = true) by decide)] at H; exact H
                        clear H
                        have H := H1
                        clear H1
                        obtain rfl := Option.some.inj H
                        go_wp2_with (first | ((with_reducible refine gate_callee (f := 12) rfl ?_); refine goesL_ (some 28) rfl rfl Try.func12 (by kernel_rfl) rfl #[.int .u32 ((a0) % 4294967296), .int .u32 10] rfl (by (try simp only [List.map_toArray, List.map_cons, List.map_nil]); first | done | rfl | (simp only [List.length_drop, List.length_take]; rfl)) ?_; (with_reducible refine (portierelaw04_digits.calls k1 ((a0) % 4294967296) 10 t222 _ A5.out).mono ?_); rintro e w41 ⟨rfl, hb⟩; refine ⟨_, rfl, ?_⟩; have n0_ := Aside0.mk (below_step (by repeat (first | (with_reducible first | exact HB.out | apply below_alloc | apply pw_below_drewN | apply below_drew1) | exact HB.out)) hb); clear HB; have HB := n0_; clear n0_; (try clear hb); (try clear hb2); (try clear hk); (try clear hi)) | ((with_reducible refine gate_callee (f := 13) rfl ?_); refine goesL_ (some 33) rfl rfl Try.func13 (by kernel_rfl) rfl #[.string (((⟨#[38, 35]⟩ : ByteArray) ++ t222) ++ (⟨#[59]⟩ : ByteArray)), .int .i64 0, .bool false] rfl (by (try simp only [List.map_toArray, List.map_cons, List.map_nil]); first | done | rfl | (simp only [List.length_drop, List.length_take]; rfl)) ?_; (with_reducible refine (charref_Take.calls (((⟨#[38, 35]⟩ : ByteArray) ++ t222) ++ (⟨#[59]⟩ : ByteArray)) 0 false t223 t224 t225 _ A8.out).mono ?_); rintro e w42 ⟨rfl, hb⟩; refine ⟨_, rfl, ?_⟩; have n0_ := Aside0.mk (below_step (by repeat (first | (with_reducible first | exact HB.out | apply below_alloc | apply pw_below_drewN | apply below_drew1) | exact HB.out)) hb); clear HB; have HB := n0_; clear n0_; (try clear hb); (try clear hb2); (try clear hk); (try clear hi)) | ((with_reducible refine gate_callee (f := 13) rfl ?_); refine goesL_ (some 43) rfl rfl Try.func13 (by kernel_rfl) rfl #[.string ((((⟨#[38, 35]⟩ : ByteArray) ++ x5_1) ++ t222) ++ (⟨#[59]⟩ : ByteArray)), .int .i64 0, .bool false] rfl (by (try simp only [List.map_toArray, List.map_cons, List.map_nil]); first | done | rfl | (simp only [List.length_drop, List.length_take]; rfl)) ?_; (with_reducible refine (charref_Take.calls ((((⟨#[38, 35]⟩ : ByteArray) ++ x5_1) ++ t222) ++ (⟨#[59]⟩ : ByteArray)) 0 false t226 t227 t228 _ A12.out).mono ?_); rintro e w43 ⟨rfl, hb⟩; refine ⟨_, rfl, ?_⟩; have n0_ := Aside0.mk (below_step (by repeat (first | (with_reducible first | exact HB.out | apply below_alloc | apply pw_below_drewN | apply below_drew1) | exact HB.out)) hb); clear HB; have HB := n0_; clear n0_; (try clear hb); (try clear hb2); (try clear hk); (try clear hi)) | ((with_reducible refine gate_callee (f := 13) rfl ?_); refine goesL_ (some 51) rfl rfl Try.func13 (by kernel_rfl) rfl #[.string (((⟨#[38, 35, 57]⟩ : ByteArray) ++ t222) ++ (⟨#[57, 57, 57, 57, 57, 57, 57, 57, 59]⟩ : ByteArray)), .int .i64 0, .bool false] rfl (by (try simp only [List.map_toArray, List.map_cons, List.map_nil]); first | done | rfl | (simp only [List.length_drop, List.length_take]; rfl)) ?_; (with_reducible refine (charref_Take.calls (((⟨#[38, 35, 57]⟩ : ByteArray) ++ t222) ++ (⟨#[57, 57, 57, 57, 57, 57, 57, 57, 59]⟩ : ByteArray)) 0 false t229 t230 t231 _ A15.out).mono ?_); rintro e w44 ⟨rfl, hb⟩; refine ⟨_, rfl, ?_⟩; have n0_ := Aside0.mk (below_step (by repeat (first | (with_reducible first | exact HB.out | apply below_alloc | apply pw_below_drewN | apply below_drew1) | exact HB.out)) hb); clear HB; have HB := n0_; clear n0_; (try clear hb); (try clear hb2); (try clear hk); (try clear hi)) | ((with_reducible refine gate_callee (f := 10) rfl ?_); refine goesL_ (some 55) rfl rfl Try.func10 (by kernel_rfl) rfl #[] rfl (by (try simp only [List.map_toArray, List.map_cons, List.map_nil]); first | done | rfl | (simp only [List.length_drop, List.length_take]; rfl)) ?_; (with_reducible refine (portierelaw04_known.calls  false _ A16.out).mono ?_); rintro e w45 ⟨rfl, hb⟩; refine ⟨_, rfl, ?_⟩; have n0_ := Aside0.mk (below_step (by repeat (first | (with_reducible first | exact HB.out | apply below_alloc | apply pw_below_drewN | apply below_drew1) | exact HB.out)) hb); clear HB; have HB := n0_; clear n0_; (try clear hb); (try clear hb2); (try clear hk); (try clear hi)))
                        go_ret
                        exact ⟨by first | rfl | (simp [errW_none, errW_some] <;> rfl) | (simp [*, errW_none, errW_some] <;> rfl), by repeat (first | (with_reducible first | exact HB.out | apply below_alloc | apply pw_below_drewN | apply below_drew1) | exact HB.out)⟩
                    · rw [if_neg c14] at H
                      exact absurd H (by simp)
                  · rw [if_neg c13] at H
                    exact absurd H (by simp)
                · rw [if_neg c11] at H
                  exact absurd H (by simp)
              · rw [if_neg c10] at H
                exact absurd H (by simp)
            · rw [if_neg c9] at H
              exact absurd H (by simp)
          · rw [if_neg c7] at H
            exact absurd H (by simp)
        · rw [if_neg c6] at H
          exact absurd H (by simp)

/-- THE ONE PURE STATEMENT of portierelaw04_CharrefZeros: yours. -/
def portierelaw04_CharrefZeros.Pure : Prop := ∀ (a0 : Int) (a1 : Int), (Lit.int .u16 a0).wf = true → (Lit.int .u8 a1).wf = true → ∃ k, portierelaw04_CharrefZeros.f k a0 a1 = some true
theorem portierelaw04_CharrefZeros.walk (P : portierelaw04_CharrefZeros.Pure) (a0 : Int) (a1 : Int) (w : World) (w0 : (Lit.int .u16 a0).wf = true) (w1 : (Lit.int .u8 a1).wf = true) :
    Calls Try.prog 4 #[.int .u16 a0, .int .u8 a1] w fun e w' => e = .returned (.bool true) ∧ Below w.heap.size w w' := by
  obtain ⟨k, h⟩ := P a0 a1 w0 w1
  refine (portierelaw04_CharrefZeros.calls k a0 a1 true w h).mono ?_
  rintro e w' ⟨rfl, hd⟩
  exact ⟨rfl, hd⟩

end Go.Proofs.Ytijjfkjihifjpaa.P
