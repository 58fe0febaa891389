-- Written by wip/tools/gprint.py of this session, over the kit's print. Lean checks it.
import Derived.Test.YtijjfkjihifjpaaPx0
import Derived.Test.YtijjfkjihifjpaaPx1
import Derived.Test.YtijjfkjihifjpaaPx2
import Derived.Test.YtijjfkjihifjpaaPx4
namespace Go.Proofs.Ytijjfkjihifjpaa.P
open Go.Proofs.Ytijjfkjihifjpaa.Hand
open Go.RowKit Go.Proofs.YtijjfkjihifjpaaW.PrintWords Go.Proofs.YtijjfkjihifjpaaW.PrintLast Go.Proofs.YtijjfkjihifjpaaW.PrintMore
attribute [local go_sem] max2_int min2_int max_two min_two max_three min_three max_four min_four   -- for this text's walks alone
attribute [local go_sem] Go.IntKind.wrap_u32
set_option linter.unusedVariables false
set_option linter.unusedSimpArgs false

/-! ### charref_numeric: function 20 -/
mutual
def charref_numeric.j0 : Nat → ByteArray → ByteArray → Int → Bool → Option (ByteArray × Int × Int)
  | 0, _, _, _, _ => none
  | k + 1, x0, x5, x6, x19 => if x19 = true then (if 1 ≤ (x5.size : Int) then (charref_numeric.j1 k x0 (x5.extract 1 x5.size) 16) else (none)) else (charref_numeric.j1 k x0 x5 x6)
def charref_numeric.j1 : Nat → ByteArray → ByteArray → Int → Option (ByteArray × Int × Int)
  | 0, _, _, _ => none
  | k + 1, x0, x5, x6 => (charref_digits.f x5 x6).bind fun bt104 => (if bt104.1 = 0 then (some ((⟨#[]⟩ : ByteArray), 0, 0)) else ((charref_point.f bt104.2).bind fun bt106 => (if 0 ≤ bt104.1 then (if bt104.1 ≤ (x5.size : Int) then ((strings_HasPrefix.f (x5.extract (bt104.1 : Int).toNat x5.size) (⟨#[59]⟩ : ByteArray)).bind fun t108 => (if t108 = true then (some (bt106.1, wrap64 ((wrap64 ((wrap64 ((x0.size : Int) - (x5.size : Int))) + bt104.1)) + 1), bt106.2)) else (if bt106.2 = 0 then (some (bt106.1, wrap64 ((wrap64 ((x0.size : Int) - (x5.size : Int))) + bt104.1), 1)) else (some (bt106.1, wrap64 ((wrap64 ((x0.size : Int) - (x5.size : Int))) + bt104.1), bt106.2))))) else (none)) else (none))))
end
def charref_numeric.f (k : Nat) (a0 : ByteArray) : Option (ByteArray × Int × Int) := if 2 ≤ (a0.size : Int) then ((strings_HasPrefix.f (a0.extract 2 a0.size) (⟨#[120]⟩ : ByteArray)).bind fun t102 => (if t102 = true then (charref_numeric.j0 k a0 (a0.extract 2 a0.size) 10 true) else ((strings_HasPrefix.f (a0.extract 2 a0.size) (⟨#[88]⟩ : ByteArray)).bind fun t103 => (charref_numeric.j0 k a0 (a0.extract 2 a0.size) 10 t103)))) else (none)
theorem charref_numeric.mono_l : ∀ k, (∀ y0 y1 y2 y3, LeO (charref_numeric.j0 k y0 y1 y2 y3) (charref_numeric.j0 (k + 1) y0 y1 y2 y3)) ∧ (∀ y0 y1 y2, LeO (charref_numeric.j1 k y0 y1 y2) (charref_numeric.j1 (k + 1) y0 y1 y2))
  | 0 => ⟨fun _ _ _ _ r h => by simp [charref_numeric.j0] at h, fun _ _ _ r h => by simp [charref_numeric.j1] at h⟩
  | k + 1 => by
    obtain ⟨ih0, ih1⟩ := charref_numeric.mono_l k
    refine ⟨?_, ?_⟩
    · intro y0 y1 y2 y3
      unfold charref_numeric.j0
      repeat' first
      | (with_reducible exact ih0 _ _ _ _)
      | (with_reducible exact ih1 _ _ _)
      | (with_reducible exact LeO.refl _)
      | (with_reducible exact LeO.none _)
      | (with_reducible refine LeO.ite ?_ ?_)
      | (with_reducible refine LeO.bind ?_ (fun _ => ?_))
      | exact ih0 _ _ _ _
      | exact ih1 _ _ _
      | exact LeO.none _
      | refine LeO.ite ?_ ?_
      | refine LeO.bind ?_ (fun _ => ?_)
    · intro y0 y1 y2
      unfold charref_numeric.j1
      repeat' first
      | (with_reducible exact ih0 _ _ _ _)
      | (with_reducible exact ih1 _ _ _)
      | (with_reducible exact LeO.refl _)
      | (with_reducible exact LeO.none _)
      | (with_reducible refine LeO.ite ?_ ?_)
      | (with_reducible refine LeO.bind ?_ (fun _ => ?_))
      | exact ih0 _ _ _ _
      | exact ih1 _ _ _
      | exact LeO.none _
      | refine LeO.ite ?_ ?_
      | refine LeO.bind ?_ (fun _ => ?_)
theorem charref_numeric.mono : ∀ a0 k, LeO (charref_numeric.f k a0) (charref_numeric.f (k + 1) a0) := by
  intro a0 k
  obtain ⟨ih0, ih1⟩ := charref_numeric.mono_l k
  unfold charref_numeric.f
  repeat' first
      | (with_reducible exact ih0 _ _ _ _)
      | (with_reducible exact ih1 _ _ _)
      | (with_reducible exact LeO.refl _)
      | (with_reducible exact LeO.none _)
      | (with_reducible refine LeO.ite ?_ ?_)
      | (with_reducible refine LeO.bind ?_ (fun _ => ?_))
      | exact ih0 _ _ _ _
      | exact ih1 _ _ _
      | exact LeO.none _
      | refine LeO.ite ?_ ?_
      | refine LeO.bind ?_ (fun _ => ?_)
set_option maxHeartbeats 8000000 in
set_option maxRecDepth 100000 in
theorem charref_numeric.calls (k : Nat) (a0 : ByteArray) (r1 : ByteArray) (r2 : Int) (r3 : Int) (w : World) (h : charref_numeric.f k a0 = some (r1, r2, r3)) :
    Calls Try.prog 20 #[.string a0] w fun e w' => e = .returned (.tuple #[.string r1, .int .i64 r2, .int .u8 r3]) ∧ Below w.heap.size w w' := by
  have HB := Aside0.mk (Below.refl w.heap.size w)
  have H : (if 2 ≤ (a0.size : Int) then ((strings_HasPrefix.f (a0.extract 2 a0.size) (⟨#[120]⟩ : ByteArray)).bind fun t102 => (if t102 = true then (charref_numeric.j0 k a0 (a0.extract 2 a0.size) 10 true) else ((strings_HasPrefix.f (a0.extract 2 a0.size) (⟨#[88]⟩ : ByteArray)).bind fun t103 => (charref_numeric.j0 k a0 (a0.extract 2 a0.size) 10 t103)))) else (none)) = some (r1, r2, r3) := h
  clear h
  by_cases c2 : 2 ≤ (a0.size : Int)
  · rw [if_pos c2] at H
    have c2b0 := eq_true c2
    have c2b1 : decide (2 ≤ (a0.size : Int)) = true := decide_eq_true c2
    clear c2
    have HC3 := Aside0.mk H
    clear H
    go_enter Try.func20, Try.ntmps20
    go_upto_region 2 with (fail)
    go_cut [19] (fun v19 wc => ∃ (kq : Nat) (x19_2 : Bool), v19 = .bool x19_2 ∧ Aside0 (charref_numeric.j0 kq a0 (a0.extract 2 a0.size) 10 x19_2 = some (r1, r2, r3)) ∧ Aside0 (kq ≤ k) ∧ Aside0 (Below w.heap.size w wc))
    case first =>
      have H := HC3.out
      clear HC3
      replace H := Option.bind_eq_some_iff.mp H
      obtain ⟨t102, A40, H⟩ := H
      replace H : (if t102 = true then (charref_numeric.j0 k a0 (a0.extract 2 a0.size) 10 true) else ((strings_HasPrefix.f (a0.extract 2 a0.size) (⟨#[88]⟩ : ByteArray)).bind fun t103 => (charref_numeric.j0 k a0 (a0.extract 2 a0.size) 10 t103))) = some (r1, r2, r3) := H
      have A4 := Aside0.mk A40
      clear A40
      by_cases c5 : t102 = true
      · subst c5
        have H1 : (charref_numeric.j0 k a0 (a0.extract 2 a0.size) 10 true) = some (r1, r2, r3) := by rw [if_pos rfl] at H; exact H
        clear H
        have H := H1
        clear H1
        have H' := Aside0.mk H
        clear H
        go_wp2_with (first | ((with_reducible refine gate_callee (f := 19) rfl ?_); refine goesL_ (some 15) rfl rfl Try.func19 (by kernel_rfl) rfl #[.string (a0.extract 2 a0.size), .string (⟨#[120]⟩ : ByteArray)] rfl (by (try simp only [List.map_toArray, List.map_cons, List.map_nil]); first | done | rfl | (simp only [List.length_drop, List.length_take]; rfl)) ?_; (with_reducible refine (strings_HasPrefix.calls (a0.extract 2 a0.size) (⟨#[120]⟩ : ByteArray) true _ A4.out).mono ?_); rintro e w' ⟨rfl, ⟨nd, rfl⟩⟩; refine ⟨_, rfl, ?_⟩))
        go_meet
        case rel => exact ⟨_, (true), (by first | rfl | (simp; done) | (simp [*]; done)), H', ⟨by first | omega | exact Nat.le_refl _⟩, ⟨by repeat (first | (with_reducible first | exact HB.out | apply below_alloc | apply pw_below_drewN | apply below_drew1) | exact HB.out)⟩⟩
      · replace c5 := Bool.eq_false_iff.mpr c5
        subst c5
        have H1 : ((strings_HasPrefix.f (a0.extract 2 a0.size) (⟨#[88]⟩ : ByteArray)).bind fun t103 => (charref_numeric.j0 k a0 (a0.extract 2 a0.size) 10 t103)) = some (r1, r2, r3) := by rw [if_neg (show ¬ (false = true) by decide)] at H; exact H
        clear H
        have H := H1
        clear H1
        replace H := Option.bind_eq_some_iff.mp H
        obtain ⟨t103, A60, H⟩ := H
        replace H : (charref_numeric.j0 k a0 (a0.extract 2 a0.size) 10 t103) = some (r1, r2, r3) := H
        have A6 := Aside0.mk A60
        clear A60
        have H' := Aside0.mk H
        clear H
        go_wp2_with (first | ((with_reducible refine gate_callee (f := 19) rfl ?_); refine goesL_ (some 15) rfl rfl Try.func19 (by kernel_rfl) rfl #[.string (a0.extract 2 a0.size), .string (⟨#[120]⟩ : ByteArray)] rfl (by (try simp only [List.map_toArray, List.map_cons, List.map_nil]); first | done | rfl | (simp only [List.length_drop, List.length_take]; rfl)) ?_; (with_reducible refine (strings_HasPrefix.calls (a0.extract 2 a0.size) (⟨#[120]⟩ : ByteArray) false _ A4.out).mono ?_); rintro e w' ⟨rfl, ⟨nd, rfl⟩⟩; refine ⟨_, rfl, ?_⟩) | (go_at_call 19; (with_reducible refine (strings_HasPrefix.calls (a0.extract 2 a0.size) (⟨#[88]⟩ : ByteArray) t103 _ A6.out).mono ?_); rintro e w' ⟨rfl, ⟨nd, rfl⟩⟩))
        go_meet
        case rel => exact ⟨_, (t103), (by first | rfl | (simp; done) | (simp [*]; done)), H', ⟨by first | omega | exact Nat.le_refl _⟩, ⟨by repeat (first | (with_reducible first | exact HB.out | apply below_alloc | apply pw_below_drewN | apply below_drew1) | exact HB.out)⟩⟩
    case rest =>
      clear HC3
      try clear c1
      try clear c2
      try clear c2b0
      try clear c2b1
      try clear p2
      try clear c5
      obtain ⟨kq, x19_2, rfl, HA, HJ2, HB⟩ := hcut
      cases kq with
      | zero => exact absurd HA.out (by simp [charref_numeric.j0])
      | succ kj2 =>
        have H := HA.out
        clear HA
        simp only [charref_numeric.j0] at H
        have HC7 := Aside0.mk H
        clear H
        go_upto_if 19 with (fail)
        go_cut [5, 6] (fun v5 v6 wc => ∃ (kq : Nat) (x5_6 : ByteArray) (x6_6 : Int), v5 = .string x5_6 ∧ v6 = .int .i32 x6_6 ∧ Aside0 (charref_numeric.j1 kq a0 x5_6 x6_6 = some (r1, r2, r3)) ∧ Aside0 (kq ≤ kj2) ∧ Aside0 (Below w.heap.size w wc))
        case first =>
          have H := HC7.out
          clear HC7
          by_cases c8 : x19_2 = true
          · subst c8
            have H1 : (if 1 ≤ ((a0.extract 2 a0.size).size : Int) then (charref_numeric.j1 kj2 a0 ((a0.extract 2 a0.size).extract 1 (a0.extract 2 a0.size).size) 16) else (none)) = some (r1, r2, r3) := by rw [if_pos rfl] at H; exact H
            clear H
            have H := H1
            clear H1
            by_cases c9 : 1 ≤ ((a0.extract 2 a0.size).size : Int)
            · rw [if_pos c9] at H
              (try (have c9s := c9; simp only [ByteArray.size_extract, Nat.min_self] at c9s; have c9sb := eq_true c9s; have c9sd := decide_eq_true c9s; clear c9s))
              have c9b0 := eq_true c9
              have c9b1 : decide (1 ≤ ((a0.extract 2 a0.size).size : Int)) = true := decide_eq_true c9
              clear c9
              have H' := Aside0.mk H
              clear H
              go_wp2
              go_meet
              case rel => exact ⟨_, ((a0.extract 2 a0.size).extract 1 (a0.extract 2 a0.size).size), (16), (by first | with_reducible rfl | (simp; done) | rfl | (simp [*]; done)), (by first | with_reducible rfl | (simp; done) | rfl | (simp [*]; done)), H', ⟨by have := HJ2.out; first | omega | exact Nat.le_refl _⟩, ⟨by repeat (first | (with_reducible first | exact HB.out | apply below_alloc | apply pw_below_drewN | apply below_drew1) | exact HB.out)⟩⟩
            · rw [if_neg c9] at H
              exact absurd H (by simp)
          · replace c8 := Bool.eq_false_iff.mpr c8
            subst c8
            have H1 : (charref_numeric.j1 kj2 a0 (a0.extract 2 a0.size) 10) = some (r1, r2, r3) := by rw [if_neg (show ¬ (false = true) by decide)] at H; exact H
            clear H
            have H := H1
            clear H1
            have H' := Aside0.mk H
            clear H
            go_wp2
            go_meet
            case rel => exact ⟨_, ((a0.extract 2 a0.size)), (10), (by first | with_reducible rfl | (simp; done) | rfl | (simp [*]; done)), (by first | with_reducible rfl | (simp; done) | rfl | (simp [*]; done)), H', ⟨by have := HJ2.out; first | omega | exact Nat.le_refl _⟩, ⟨by repeat (first | (with_reducible first | exact HB.out | apply below_alloc | apply pw_below_drewN | apply below_drew1) | exact HB.out)⟩⟩
        case rest =>
          clear HC7
          try clear c1
          try clear c2
          try clear c2b0
          try clear c2b1
          try clear p2
          try clear c5
          try clear c8
          try clear c9
          try clear c9b0
          try clear c9b1
          try clear p2
          obtain ⟨kq, x5_6, x6_6, rfl, rfl, HA, HJ6, HB⟩ := hcut
          cases kq with
          | zero => exact absurd HA.out (by simp [charref_numeric.j1])
          | succ kj6 =>
            have H := HA.out
            clear HA
            simp only [charref_numeric.j1] at H
            replace H := Option.bind_eq_some_iff.mp H
            obtain ⟨⟨t104, t105⟩, A100, H⟩ := H
            replace H : (if t104 = 0 then (some ((⟨#[]⟩ : ByteArray), 0, 0)) else ((charref_point.f t105).bind fun bt106 => (if 0 ≤ t104 then (if t104 ≤ (x5_6.size : Int) then ((strings_HasPrefix.f (x5_6.extract (t104 : Int).toNat x5_6.size) (⟨#[59]⟩ : ByteArray)).bind fun t108 => (if t108 = true then (some (bt106.1, wrap64 ((wrap64 ((wrap64 ((a0.size : Int) - (x5_6.size : Int))) + t104)) + 1), bt106.2)) else (if bt106.2 = 0 then (some (bt106.1, wrap64 ((wrap64 ((a0.size : Int) - (x5_6.size : Int))) + t104), 1)) else (some (bt106.1, wrap64 ((wrap64 ((a0.size : Int) - (x5_6.size : Int))) + t104), bt106.2))))) else (none)) else (none)))) = some (r1, r2, r3) := H
            have A10 := Aside0.mk A100
            clear A100
            by_cases c11 : t104 = 0
            · rw [if_pos c11] at H
              have c11b0 : (t104 == 0) = true := beq_iff_eq.mpr c11
              have c11b1 : (t104 != 0) = false := bne_eq_false_iff_eq.mpr c11
              clear c11
              simp only [Option.some.injEq, Prod.mk.injEq] at H
              obtain ⟨rfl, rfl, rfl⟩ := H
              go_wp2_with (first | ((with_reducible refine gate_callee (f := 29) rfl ?_); refine goesL_ (some 25) rfl rfl Try.func29 (by kernel_rfl) rfl #[.string x5_6, .int .i32 x6_6] rfl (by (try simp only [List.map_toArray, List.map_cons, List.map_nil]); first | done | rfl | (simp only [List.length_drop, List.length_take]; rfl)) ?_; (with_reducible refine (charref_digits.calls x5_6 x6_6 t104 t105 _ A10.out).mono ?_); rintro e w12 ⟨rfl, hb⟩; refine ⟨_, rfl, ?_⟩; have n0_ := Aside0.mk (below_step (by repeat (first | (with_reducible first | exact HB.out | apply below_alloc | apply pw_below_drewN | apply below_drew1) | exact HB.out)) hb); clear HB; have HB := n0_; clear n0_; (try clear hb); (try clear hb2); (try clear hk); (try clear hi)))
              go_ret3
              exact ⟨by first | rfl | (simp [errW_none, errW_some] <;> rfl) | (simp [*, errW_none, errW_some] <;> rfl), by repeat (first | (with_reducible first | exact HB.out | apply below_alloc | apply pw_below_drewN | apply below_drew1) | exact HB.out)⟩
            · rw [if_neg c11] at H
              have c11b0 : (t104 == 0) = false := beq_eq_false_iff_ne.mpr c11
              have c11b1 : (t104 != 0) = true := bne_iff_ne.mpr c11
              replace H := Option.bind_eq_some_iff.mp H
              obtain ⟨⟨t106, t107⟩, A130, H⟩ := H
              replace H : (if 0 ≤ t104 then (if t104 ≤ (x5_6.size : Int) then ((strings_HasPrefix.f (x5_6.extract (t104 : Int).toNat x5_6.size) (⟨#[59]⟩ : ByteArray)).bind fun t108 => (if t108 = true then (some (t106, wrap64 ((wrap64 ((wrap64 ((a0.size : Int) - (x5_6.size : Int))) + t104)) + 1), t107)) else (if t107 = 0 then (some (t106, wrap64 ((wrap64 ((a0.size : Int) - (x5_6.size : Int))) + t104), 1)) else (some (t106, wrap64 ((wrap64 ((a0.size : Int) - (x5_6.size : Int))) + t104), t107))))) else (none)) else (none)) = some (r1, r2, r3) := H
              have A13 := Aside0.mk A130
              clear A130
              by_cases c14 : 0 ≤ t104
              · rw [if_pos c14] at H
                have c14b0 := eq_true c14
                have c14b1 : decide (0 ≤ t104) = true := decide_eq_true c14
                clear c14
                by_cases c15 : t104 ≤ (x5_6.size : Int)
                · rw [if_pos c15] at H
                  have c15b0 := eq_true c15
                  have c15b1 : decide (t104 ≤ (x5_6.size : Int)) = true := decide_eq_true c15
                  clear c15
                  replace H := Option.bind_eq_some_iff.mp H
                  obtain ⟨t108, A160, H⟩ := H
                  replace H : (if t108 = true then (some (t106, wrap64 ((wrap64 ((wrap64 ((a0.size : Int) - (x5_6.size : Int))) + t104)) + 1), t107)) else (if t107 = 0 then (some (t106, wrap64 ((wrap64 ((a0.size : Int) - (x5_6.size : Int))) + t104), 1)) else (some (t106, wrap64 ((wrap64 ((a0.size : Int) - (x5_6.size : Int))) + t104), t107)))) = some (r1, r2, r3) := H
                  have A16 := Aside0.mk A160
                  clear A160
                  by_cases c17 : t108 = true
                  · subst c17
                    have H1 : (some (t106, wrap64 ((wrap64 ((wrap64 ((a0.size : Int) - (x5_6.size : Int))) + t104)) + 1), t107)) = some (r1, r2, r3) := by rw [if_pos rfl] at H; exact H
                    clear H
                    have H := H1
                    clear H1
                    simp only [Option.some.injEq, Prod.mk.injEq] at H
                    obtain ⟨rfl, rfl, rfl⟩ := H
                    go_wp2_with (first | ((with_reducible refine gate_callee (f := 29) rfl ?_); refine goesL_ (some 25) rfl rfl Try.func29 (by kernel_rfl) rfl #[.string x5_6, .int .i32 x6_6] rfl (by (try simp only [List.map_toArray, List.map_cons, List.map_nil]); first | done | rfl | (simp only [List.length_drop, List.length_take]; rfl)) ?_; (with_reducible refine (charref_digits.calls x5_6 x6_6 t104 t105 _ A10.out).mono ?_); rintro e w18 ⟨rfl, hb⟩; refine ⟨_, rfl, ?_⟩; have n0_ := Aside0.mk (below_step (by repeat (first | (with_reducible first | exact HB.out | apply below_alloc | apply pw_below_drewN | apply below_drew1) | exact HB.out)) hb); clear HB; have HB := n0_; clear n0_; (try clear hb); (try clear hb2); (try clear hk); (try clear hi)) | ((with_reducible refine gate_callee (f := 30) rfl ?_); refine goesL_ (some 32) rfl rfl Try.func30 (by kernel_rfl) rfl #[.int .i32 t105] rfl (by (try simp only [List.map_toArray, List.map_cons, List.map_nil]); first | done | rfl | (simp only [List.length_drop, List.length_take]; rfl)) ?_; (with_reducible refine (charref_point.calls t105 t106 t107 _ A13.out).mono ?_); rintro e w19 ⟨rfl, hb⟩; refine ⟨_, rfl, ?_⟩; have n0_ := Aside0.mk (below_step (by repeat (first | (with_reducible first | exact HB.out | apply below_alloc | apply pw_below_drewN | apply below_drew1) | exact HB.out)) hb); clear HB; have HB := n0_; clear n0_; (try clear hb); (try clear hb2); (try clear hk); (try clear hi)) | ((with_reducible refine gate_callee (f := 19) rfl ?_); refine goesL_ (some 46) rfl rfl Try.func19 (by kernel_rfl) rfl #[.string (x5_6.extract (t104 : Int).toNat x5_6.size), .string (⟨#[59]⟩ : ByteArray)] rfl (by (try simp only [List.map_toArray, List.map_cons, List.map_nil]); first | done | rfl | (simp only [List.length_drop, List.length_take]; rfl)) ?_; (with_reducible refine (strings_HasPrefix.calls (x5_6.extract (t104 : Int).toNat x5_6.size) (⟨#[59]⟩ : ByteArray) true _ A16.out).mono ?_); rintro e w' ⟨rfl, ⟨nd, rfl⟩⟩; refine ⟨_, rfl, ?_⟩))
                    go_ret3
                    exact ⟨by first | rfl | (simp [errW_none, errW_some] <;> rfl) | (simp [*, errW_none, errW_some] <;> rfl), by repeat (first | (with_reducible first | exact HB.out | apply below_alloc | apply pw_below_drewN | apply below_drew1) | exact HB.out)⟩
                  · replace c17 := Bool.eq_false_iff.mpr c17
                    subst c17
                    have H1 : (if t107 = 0 then (some (t106, wrap64 ((wrap64 ((a0.size : Int) - (x5_6.size : Int))) + t104), 1)) else (some (t106, wrap64 ((wrap64 ((a0.size : Int) - (x5_6.size : Int))) + t104), t107))) = some (r1, r2, r3) := by rw [if_neg (show ¬ (false = true) by decide)] at H; exact H
                    clear H
                    have H := H1
                    clear H1
                    by_cases c20 : t107 = 0
                    · rw [if_pos c20] at H
                      have c20b0 : (t107 == 0) = true := beq_iff_eq.mpr c20
                      have c20b1 : (t107 != 0) = false := bne_eq_false_iff_eq.mpr c20
                      clear c20
                      simp only [Option.some.injEq, Prod.mk.injEq] at H
                      obtain ⟨rfl, rfl, rfl⟩ := H
                      go_wp2_with (first | ((with_reducible refine gate_callee (f := 29) rfl ?_); refine goesL_ (some 25) rfl rfl Try.func29 (by kernel_rfl) rfl #[.string x5_6, .int .i32 x6_6] rfl (by (try simp only [List.map_toArray, List.map_cons, List.map_nil]); first | done | rfl | (simp only [List.length_drop, List.length_take]; rfl)) ?_; (with_reducible refine (charref_digits.calls x5_6 x6_6 t104 t105 _ A10.out).mono ?_); rintro e w21 ⟨rfl, hb⟩; refine ⟨_, rfl, ?_⟩; have n0_ := Aside0.mk (below_step (by repeat (first | (with_reducible first | exact HB.out | apply below_alloc | apply pw_below_drewN | apply below_drew1) | exact HB.out)) hb); clear HB; have HB := n0_; clear n0_; (try clear hb); (try clear hb2); (try clear hk); (try clear hi)) | ((with_reducible refine gate_callee (f := 30) rfl ?_); refine goesL_ (some 32) rfl rfl Try.func30 (by kernel_rfl) rfl #[.int .i32 t105] rfl (by (try simp only [List.map_toArray, List.map_cons, List.map_nil]); first | done | rfl | (simp only [List.length_drop, List.length_take]; rfl)) ?_; (with_reducible refine (charref_point.calls t105 t106 t107 _ A13.out).mono ?_); rintro e w22 ⟨rfl, hb⟩; refine ⟨_, rfl, ?_⟩; have n0_ := Aside0.mk (below_step (by repeat (first | (with_reducible first | exact HB.out | apply below_alloc | apply pw_below_drewN | apply below_drew1) | exact HB.out)) hb); clear HB; have HB := n0_; clear n0_; (try clear hb); (try clear hb2); (try clear hk); (try clear hi)) | ((with_reducible refine gate_callee (f := 19) rfl ?_); refine goesL_ (some 46) rfl rfl Try.func19 (by kernel_rfl) rfl #[.string (x5_6.extract (t104 : Int).toNat x5_6.size), .string (⟨#[59]⟩ : ByteArray)] rfl (by (try simp only [List.map_toArray, List.map_cons, List.map_nil]); first | done | rfl | (simp only [List.length_drop, List.length_take]; rfl)) ?_; (with_reducible refine (strings_HasPrefix.calls (x5_6.extract (t104 : Int).toNat x5_6.size) (⟨#[59]⟩ : ByteArray) false _ A16.out).mono ?_); rintro e w' ⟨rfl, ⟨nd, rfl⟩⟩; refine ⟨_, rfl, ?_⟩))
                      go_ret3
                      exact ⟨by first | rfl | (simp [errW_none, errW_some] <;> rfl) | (simp [*, errW_none, errW_some] <;> rfl), by repeat (first | (with_reducible first | exact HB.out | apply below_alloc | apply pw_below_drewN | apply below_drew1) | exact HB.out)⟩
                    · rw [if_neg c20] at H
                      have c20b0 : (t107 == 0) = false := beq_eq_false_iff_ne.mpr c20
                      have c20b1 : (t107 != 0) = true := bne_iff_ne.mpr c20
                      simp only [Option.some.injEq, Prod.mk.injEq] at H
                      obtain ⟨rfl, rfl, rfl⟩ := H
                      go_wp2_with (first | ((with_reducible refine gate_callee (f := 29) rfl ?_); refine goesL_ (some 25) rfl rfl Try.func29 (by kernel_rfl) rfl #[.string x5_6, .int .i32 x6_6] rfl (by (try simp only [List.map_toArray, List.map_cons, List.map_nil]); first | done | rfl | (simp only [List.length_drop, List.length_take]; rfl)) ?_; (with_reducible refine (charref_digits.calls x5_6 x6_6 t104 t105 _ A10.out).mono ?_); rintro e w23 ⟨rfl, hb⟩; refine ⟨_, rfl, ?_⟩; have n0_ := Aside0.mk (below_step (by repeat (first | (with_reducible first | exact HB.out | apply below_alloc | apply pw_below_drewN | apply below_drew1) | exact HB.out)) hb); clear HB; have HB := n0_; clear n0_; (try clear hb); (try clear hb2); (try clear hk); (try clear hi)) | ((with_reducible refine gate_callee (f := 30) rfl ?_); refine goesL_ (some 32) rfl rfl Try.func30 (by kernel_rfl) rfl #[.int .i32 t105] rfl (by (try simp only [List.map_toArray, List.map_cons, List.map_nil]); first | done | rfl | (simp only [List.length_drop, List.length_take]; rfl)) ?_; (with_reducible refine (charref_point.calls t105 t106 t107 _ A13.out).mono ?_); rintro e w24 ⟨rfl, hb⟩; refine ⟨_, rfl, ?_⟩; have n0_ := Aside0.mk (below_step (by repeat (first | (with_reducible first | exact HB.out | apply below_alloc | apply pw_below_drewN | apply below_drew1) | exact HB.out)) hb); clear HB; have HB := n0_; clear n0_; (try clear hb); (try clear hb2); (try clear hk); (try clear hi)) | ((with_reducible refine gate_callee (f := 19) rfl ?_); refine goesL_ (some 46) rfl rfl Try.func19 (by kernel_rfl) rfl #[.string (x5_6.extract (t104 : Int).toNat x5_6.size), .string (⟨#[59]⟩ : ByteArray)] rfl (by (try simp only [List.map_toArray, List.map_cons, List.map_nil]); first | done | rfl | (simp only [List.length_drop, List.length_take]; rfl)) ?_; (with_reducible refine (strings_HasPrefix.calls (x5_6.extract (t104 : Int).toNat x5_6.size) (⟨#[59]⟩ : ByteArray) false _ A16.out).mono ?_); rintro e w' ⟨rfl, ⟨nd, rfl⟩⟩; refine ⟨_, rfl, ?_⟩))
                      go_ret3
                      exact ⟨by first | rfl | (simp [errW_none, errW_some] <;> rfl) | (simp [*, errW_none, errW_some] <;> rfl), by repeat (first | (with_reducible first | exact HB.out | apply below_alloc | apply pw_below_drewN | apply below_drew1) | exact HB.out)⟩
                · rw [if_neg c15] at H
                  exact absurd H (by simp)
              · rw [if_neg c14] at H
                exact absurd H (by simp)
  · rw [if_neg c2] at H
    exact absurd H (by simp)

end Go.Proofs.Ytijjfkjihifjpaa.P
