-- Written by wip/tools/gprint.py of this session, over the kit's print. Lean checks it.
import Derived.Test.YtebcdfdkgjcmmaaPx0
import Derived.Test.YtebcdfdkgjcmmaaPx1
import Derived.Test.YtebcdfdkgjcmmaaPx2
import Derived.Test.YtebcdfdkgjcmmaaPx3
namespace Go.Proofs.Ytebcdfdkgjcmmaa.P
open Go.Proofs.Ytebcdfdkgjcmmaa.Hand
open Go.RowKit Go.Proofs.YtebcdfdkgjcmmaaW.PrintWords Go.Proofs.YtebcdfdkgjcmmaaW.PrintLast Go.Proofs.YtebcdfdkgjcmmaaW.PrintMore
attribute [local go_sem] max2_int min2_int max_two min_two max_three min_three max_four min_four   -- for this text's walks alone
attribute [local go_sem] Go.IntKind.wrap_u32
set_option linter.unusedVariables false
set_option linter.unusedSimpArgs false

/-! ### portierelaw05_EscapeLong: function 3 -/
mutual
def portierelaw05_EscapeLong.j0 : Nat → ByteArray → Bool → Option (Bool)
  | 0, _, _ => none
  | k + 1, x0, x11 => if x11 = true then ((portierelaw05_known.f).bind fun t113 => (some t113)) else (portierelaw05_EscapeLong.l0 k x0 (⟨#[]⟩ : ByteArray) 0)
def portierelaw05_EscapeLong.l0 : Nat → ByteArray → ByteArray → Int → Option (Bool)
  | 0, _, _, _ => none
  | k + 1, x0, x3, x4 => if x4 < (x0.size : Int) then (if 0 ≤ x4 then ((some (([(97 + (Int.tmod (bt x0 x4) 26)) % 256] : List Int) : List Int)).bind fun y114 => (if x3.size + (strOfNums y114).size ≤ 9223372036854775807 then (portierelaw05_EscapeLong.l0 k x0 (x3 ++ (strOfNums y114)) (wrap64 (x4 + 1))) else (none))) else (none)) else ((escape_Text.f x0).bind fun t117 => (if (t117.size : Int) ≥ (x0.size : Int) then ((escape_Value.f x0).bind fun t118 => ((escape_Text.f x0).bind fun t119 => (if (t118.size : Int) ≥ (t119.size : Int) then ((escape_Text.f x3).bind fun t120 => (if t120.toList = x3.toList then ((escape_Value.f x3).bind fun t121 => (some (t121.toList == x3.toList))) else (some false))) else (some false)))) else (some false)))
end
def portierelaw05_EscapeLong.f (k : Nat) (a0 : ByteArray) : Option (Bool) := if (a0.size : Int) > 1000 then (portierelaw05_EscapeLong.j0 k a0 true) else ((portierelaw05_known.f).bind fun t112 => (portierelaw05_EscapeLong.j0 k a0 (!t112)))
theorem portierelaw05_EscapeLong.mono_l : ∀ k, (∀ y0 y1, LeO (portierelaw05_EscapeLong.j0 k y0 y1) (portierelaw05_EscapeLong.j0 (k + 1) y0 y1)) ∧ (∀ y0 y1 y2, LeO (portierelaw05_EscapeLong.l0 k y0 y1 y2) (portierelaw05_EscapeLong.l0 (k + 1) y0 y1 y2))
  | 0 => ⟨fun _ _ r h => by simp [portierelaw05_EscapeLong.j0] at h, fun _ _ _ r h => by simp [portierelaw05_EscapeLong.l0] at h⟩
  | k + 1 => by
    obtain ⟨ih0, ih1⟩ := portierelaw05_EscapeLong.mono_l k
    refine ⟨?_, ?_⟩
    · intro y0 y1
      unfold portierelaw05_EscapeLong.j0
      repeat' first
      | (with_reducible exact ih0 _ _)
      | (with_reducible exact ih1 _ _ _)
      | (with_reducible exact LeO.refl _)
      | (with_reducible exact LeO.none _)
      | (with_reducible refine LeO.ite ?_ ?_)
      | (with_reducible refine LeO.bind ?_ (fun _ => ?_))
      | exact ih0 _ _
      | exact ih1 _ _ _
      | exact LeO.none _
      | refine LeO.ite ?_ ?_
      | refine LeO.bind ?_ (fun _ => ?_)
    · intro y0 y1 y2
      unfold portierelaw05_EscapeLong.l0
      repeat' first
      | (with_reducible exact ih0 _ _)
      | (with_reducible exact ih1 _ _ _)
      | (with_reducible exact LeO.refl _)
      | (with_reducible exact LeO.none _)
      | (with_reducible refine LeO.ite ?_ ?_)
      | (with_reducible refine LeO.bind ?_ (fun _ => ?_))
      | exact ih0 _ _
      | exact ih1 _ _ _
      | exact LeO.none _
      | refine LeO.ite ?_ ?_
      | refine LeO.bind ?_ (fun _ => ?_)
theorem portierelaw05_EscapeLong.mono : ∀ a0 k, LeO (portierelaw05_EscapeLong.f k a0) (portierelaw05_EscapeLong.f (k + 1) a0) := by
  intro a0 k
  obtain ⟨ih0, ih1⟩ := portierelaw05_EscapeLong.mono_l k
  unfold portierelaw05_EscapeLong.f
  repeat' first
      | (with_reducible exact ih0 _ _)
      | (with_reducible exact ih1 _ _ _)
      | (with_reducible exact LeO.refl _)
      | (with_reducible exact LeO.none _)
      | (with_reducible refine LeO.ite ?_ ?_)
      | (with_reducible refine LeO.bind ?_ (fun _ => ?_))
      | exact ih0 _ _
      | exact ih1 _ _ _
      | exact LeO.none _
      | refine LeO.ite ?_ ?_
      | refine LeO.bind ?_ (fun _ => ?_)
set_option maxHeartbeats 8000000 in
set_option maxRecDepth 100000 in
theorem portierelaw05_EscapeLong.calls (k : Nat) (a0 : ByteArray) (r : Bool) (w : World) (h : portierelaw05_EscapeLong.f k a0 = some r) :
    Calls Try.prog 3 #[.string a0] w fun e w' => e = .returned (.bool r) ∧ Below w.heap.size w w' := by
  have HB := Aside0.mk (Below.refl w.heap.size w)
  have H : (if (a0.size : Int) > 1000 then (portierelaw05_EscapeLong.j0 k a0 true) else ((portierelaw05_known.f).bind fun t112 => (portierelaw05_EscapeLong.j0 k a0 (!t112)))) = some r := h
  clear h
  have HC2 := Aside0.mk H
  clear H
  go_enter Try.func3, Try.ntmps3
  go_upto_region 1 with (fail)
  go_cut [11] (fun v11 wc => ∃ (kq : Nat) (x11_1 : Bool), v11 = .bool x11_1 ∧ Aside0 (portierelaw05_EscapeLong.j0 kq a0 x11_1 = some r) ∧ Aside0 (kq ≤ k) ∧ Aside0 (Below w.heap.size w wc))
  case first =>
    have H := HC2.out
    clear HC2
    by_cases c3 : (a0.size : Int) > 1000
    · rw [if_pos c3] at H
      have c3b0 : decide (1000 < (a0.size : Int)) = true := decide_eq_true c3
      have c3b1 : decide (1000 < a0.size) = true := decide_eq_true (by omega)
      clear c3
      (first | rw [c3b0] | (simp only [i64_w, i32_w]; rw [c3b0]) | skip)
      have H' := Aside0.mk H
      clear H
      go_wp2
      go_meet
      case rel => exact ⟨_, (true), (by first | rfl | (simp; done) | (simp [*]; done)), H', ⟨by first | omega | exact Nat.le_refl _⟩, ⟨by repeat (first | (with_reducible first | exact HB.out | apply below_alloc | apply pw_below_drewN | apply below_drew1) | exact HB.out)⟩⟩
    · rw [if_neg c3] at H
      have c3b0 : decide (1000 < (a0.size : Int)) = false := decide_eq_false c3
      have c3b1 : decide (1000 < a0.size) = false := decide_eq_false (by omega)
      clear c3
      (first | rw [c3b0] | (simp only [i64_w, i32_w]; rw [c3b0]) | skip)
      replace H := Option.bind_eq_some_iff.mp H
      obtain ⟨t112, A40, H⟩ := H
      replace H : (portierelaw05_EscapeLong.j0 k a0 (!t112)) = some r := H
      have A4 := Aside0.mk A40
      clear A40
      have H' := Aside0.mk H
      clear H
      go_wp2_with (first | (go_at_call 8; (with_reducible refine (portierelaw05_known.calls  t112 _ A4.out).mono ?_); rintro e w5 ⟨rfl, hb⟩; have n0_ := Aside0.mk (below_step (by repeat (first | (with_reducible first | exact HB.out | apply below_alloc | apply pw_below_drewN | apply below_drew1) | exact HB.out)) hb); clear HB; have HB := n0_; clear n0_; (try clear hb); (try clear hb2); (try clear hk); (try clear hi)))
      go_meet
      case rel => exact ⟨_, (!t112), (by first | rfl | (simp; done) | (simp [*]; done)), H', ⟨by first | omega | exact Nat.le_refl _⟩, ⟨by repeat (first | (with_reducible first | exact HB.out | apply below_alloc | apply pw_below_drewN | apply below_drew1) | exact HB.out)⟩⟩
  case rest =>
    clear HC2
    try clear p2
    try clear c3
    try clear c3b0
    try clear c3b1
    obtain ⟨kq, x11_1, rfl, HA, HJ1, HB⟩ := hcut
    cases kq with
    | zero => exact absurd HA.out (by simp [portierelaw05_EscapeLong.j0])
    | succ kj1 =>
      have H := HA.out
      clear HA
      simp only [portierelaw05_EscapeLong.j0] at H
      by_cases c6 : x11_1 = true
      · subst c6
        have H1 : ((portierelaw05_known.f).bind fun t113 => (some t113)) = some r := by rw [if_pos rfl] at H; exact H
        clear H
        have H := H1
        clear H1
        replace H := Option.bind_eq_some_iff.mp H
        obtain ⟨t113, A70, H⟩ := H
        replace H : (some t113) = some r := H
        have A7 := Aside0.mk A70
        clear A70
        obtain rfl := Option.some.inj H
        go_wp2_with (first | ((with_reducible refine gate_callee (f := 8) rfl ?_); refine goesL_ (some 12) rfl rfl Try.func8 (by kernel_rfl) rfl #[] rfl (by (try simp only [List.map_toArray, List.map_cons, List.map_nil]); first | done | rfl | (simp only [List.length_drop, List.length_take]; rfl)) ?_; (with_reducible refine (portierelaw05_known.calls  t113 _ A7.out).mono ?_); rintro e w8 ⟨rfl, hb⟩; refine ⟨_, rfl, ?_⟩; have n0_ := Aside0.mk (below_step (by repeat (first | (with_reducible first | exact HB.out | apply below_alloc | apply pw_below_drewN | apply below_drew1) | exact HB.out)) hb); clear HB; have HB := n0_; clear n0_; (try clear hb); (try clear hb2); (try clear hk); (try clear hi)))
        go_ret
        exact ⟨by first | rfl | (simp [errW_none, errW_some] <;> rfl) | (simp [*, errW_none, errW_some] <;> rfl), by repeat (first | (with_reducible first | exact HB.out | apply below_alloc | apply pw_below_drewN | apply below_drew1) | exact HB.out)⟩
      · replace c6 := Bool.eq_false_iff.mpr c6
        subst c6
        have H1 : (portierelaw05_EscapeLong.l0 kj1 a0 (⟨#[]⟩ : ByteArray) 0) = some r := by rw [if_neg (show ¬ (false = true) by decide)] at H; exact H
        clear H
        have H := H1
        clear H1
        have H' := Aside0.mk H
        clear H
        go_wp2
        go_loopg [3, 4] kj1 (fun kq v3 v4 w' => ∃ (x3_2 : ByteArray) (x4_2 : Int), v3 = .string x3_2 ∧ v4 = .int .i64 x4_2 ∧ Aside0 (portierelaw05_EscapeLong.l0 kq a0 x3_2 x4_2 = some r) ∧ Aside0 (kq ≤ kj1) ∧ Aside0 (Below w.heap.size w w'))
        case atStart => exact ⟨((⟨#[]⟩ : ByteArray)), (0), (by first | rfl | (simp; done) | (simp [*]; done)), (by first | rfl | (simp; done) | (simp [*]; done)), H', ⟨Nat.le_refl _⟩, ⟨by repeat (first | (with_reducible first | exact HB.out | apply below_alloc | apply pw_below_drewN | apply below_drew1) | exact HB.out)⟩⟩
        case round =>
          clear H'
          try clear p2
          try clear c3
          try clear c3b0
          try clear c3b1
          try clear c6
          try clear c8
          try clear p2
          obtain ⟨x3_2, x4_2, rfl, rfl, HA, HK2, HB⟩ := hrel
          cases gk with
          | zero => exact absurd HA.out (by simp [portierelaw05_EscapeLong.l0])
          | succ k2 =>
            have H := HA.out
            clear HA
            simp only [portierelaw05_EscapeLong.l0] at H
            by_cases c9 : x4_2 < (a0.size : Int)
            · rw [if_pos c9] at H
              have c9b0 : decide (x4_2 < (a0.size : Int)) = true := decide_eq_true c9
              clear c9
              by_cases c10 : 0 ≤ x4_2
              · rw [if_pos c10] at H
                have c10b0 : decide (0 ≤ x4_2) = true := decide_eq_true c10
                clear c10
                obtain ⟨y114, hy114⟩ : ∃ y_ : List Int, y_ = (([(97 + (Int.tmod (bt a0 x4_2) 26)) % 256] : List Int)) := ⟨_, rfl⟩
                replace H : (if x3_2.size + (strOfNums y114).size ≤ 9223372036854775807 then (portierelaw05_EscapeLong.l0 k2 a0 (x3_2 ++ (strOfNums y114)) (wrap64 (x4_2 + 1))) else (none)) = some r := by first | (rw [hy114]; with_reducible exact H) | (have H2_ := (Option.bind_some _ _).symm.trans H; rw [hy114]; with_reducible exact H2_) | (have H2_ := (Option.bind_some _ _).symm.trans H; with_reducible exact H2_) | with_reducible exact H | (rw [hy114]; exact H) | exact H
                have Ny114 := Aside0.mk hy114
                clear hy114
                by_cases c12 : x3_2.size + (strOfNums y114).size ≤ 9223372036854775807
                · rw [if_pos c12] at H
                  have c12b0 := eq_true c12
                  have c12b1 : decide (x3_2.size + (strOfNums y114).size ≤ 9223372036854775807) = true := decide_eq_true c12
                  try have c12b2 : (9223372036854775807 < x3_2.size + (strOfNums y114).size) = False := eq_false (Nat.not_lt.2 c12)
                  have H' := Aside0.mk H
                  clear H
                  have p11 : 0 ≤ (x4_2 : Int) := of_decide_eq_true (by first | (with_reducible assumption) | assumption)
                  have q11 : x4_2 < (a0.size : Int) := of_decide_eq_true (by first | (with_reducible assumption) | assumption)
                  have hx11 := bt_at a0 x4_2
                  replace p11 := eq_true p11
                  replace q11 := eq_true q11
                  go_wp2_with (first | ((with_reducible refine gate_dst (N := 25) rfl ?_); (try (refine gate_guard (by rfl) ?_; dsimp only)); refine Kd.R_lit (Kd.int .u8) _ 5 ?hg (N := 25) ?hd (xs := ([(97 + (Int.tmod (bt a0 x4_2) 26)) % 256] : List Int)) (inner := [.int .u8 ((97 + (Int.tmod (bt a0 x4_2) 26)) % 256)]) (ok := fun _ => True) (okp := fun _ => True) ?hr ?hp (fun _ hk => hk) trivial (Below.refl _ _) (Nat.le_refl _) (by simp) ?_; (case hd => rfl); (case hg => rfl); (case hr => first | (go_simp; done) | (go_simp; rfl)); (case hp => exact (Reps.one (show Kd.M (Kd.int .u8) _ _ _ ((97 + (Int.tmod (bt a0 x4_2) 26)) % 256) [.int .u8 ((97 + (Int.tmod (bt a0 x4_2) 26)) % 256)] from rfl) (Reps.none _ _))); intro v115 w13 ho14 hb hg_ hnew_; clear hg_ hnew_; (first | rw [← Ny114.out] at ho14 | (simp only [Int.reduceToNat] at ho14; rw [← Ny114.out] at ho14)); have n0_ := Aside0.mk (Kd.R_lower ho14 (below_size (by repeat (first | (with_reducible first | exact HB.out | apply below_alloc | apply pw_below_drewN | apply below_drew1) | exact HB.out)))); have n1_ := Aside0.mk (below_step (by repeat (first | (with_reducible first | exact HB.out | apply below_alloc | apply pw_below_drewN | apply below_drew1) | exact HB.out)) hb); clear HB; have HO116 := n0_; have HB := n1_; clear n0_ n1_; clear hb ho14; have hcv15 := own_string (P := Try.prog) Try.underlying23 Try.underlying5 Try.underlying9 (Kd.own_of_R HO116.out)))
                  go_roundg k2
                  case measure => have := HJ1.out; have := HK2.out; omega
                  case rel => exact ⟨(x3_2 ++ (strOfNums y114)), (wrap64 (x4_2 + 1)), (by first | rfl | (simp; done) | (simp [*]; done)), (by first | rfl | (simp; done) | (simp [*]; done)), H', ⟨by have := HJ1.out; have := HK2.out; omega⟩, ⟨by repeat (first | (with_reducible first | exact HB.out | apply below_alloc | apply pw_below_drewN | apply below_drew1) | exact HB.out)⟩⟩
                · rw [if_neg c12] at H
                  exact absurd H (by simp)
              · rw [if_neg c10] at H
                exact absurd H (by simp)
            · rw [if_neg c9] at H
              have c9b0 : decide (x4_2 < (a0.size : Int)) = false := decide_eq_false c9
              clear c9
              replace H := Option.bind_eq_some_iff.mp H
              obtain ⟨t117, A160, H⟩ := H
              replace H : (if (t117.size : Int) ≥ (a0.size : Int) then ((escape_Value.f a0).bind fun t118 => ((escape_Text.f a0).bind fun t119 => (if (t118.size : Int) ≥ (t119.size : Int) then ((escape_Text.f x3_2).bind fun t120 => (if t120.toList = x3_2.toList then ((escape_Value.f x3_2).bind fun t121 => (some (t121.toList == x3_2.toList))) else (some false))) else (some false)))) else (some false)) = some r := H
              have A16 := Aside0.mk A160
              clear A160
              by_cases c17 : (t117.size : Int) ≥ (a0.size : Int)
              · rw [if_pos c17] at H
                have c17b0 : decide ((a0.size : Int) ≤ (t117.size : Int)) = true := decide_eq_true c17
                have c17b1 : decide (a0.size ≤ t117.size) = true := decide_eq_true (Int.ofNat_le.mp c17)
                clear c17
                replace H := Option.bind_eq_some_iff.mp H
                obtain ⟨t118, A180, H⟩ := H
                replace H : ((escape_Text.f a0).bind fun t119 => (if (t118.size : Int) ≥ (t119.size : Int) then ((escape_Text.f x3_2).bind fun t120 => (if t120.toList = x3_2.toList then ((escape_Value.f x3_2).bind fun t121 => (some (t121.toList == x3_2.toList))) else (some false))) else (some false))) = some r := H
                have A18 := Aside0.mk A180
                clear A180
                replace H := Option.bind_eq_some_iff.mp H
                obtain ⟨t119, A190, H⟩ := H
                replace H : (if (t118.size : Int) ≥ (t119.size : Int) then ((escape_Text.f x3_2).bind fun t120 => (if t120.toList = x3_2.toList then ((escape_Value.f x3_2).bind fun t121 => (some (t121.toList == x3_2.toList))) else (some false))) else (some false)) = some r := H
                have A19 := Aside0.mk A190
                clear A190
                by_cases c20 : (t118.size : Int) ≥ (t119.size : Int)
                · rw [if_pos c20] at H
                  have c20b0 : decide ((t119.size : Int) ≤ (t118.size : Int)) = true := decide_eq_true c20
                  have c20b1 : decide (t119.size ≤ t118.size) = true := decide_eq_true (Int.ofNat_le.mp c20)
                  clear c20
                  replace H := Option.bind_eq_some_iff.mp H
                  obtain ⟨t120, A210, H⟩ := H
                  replace H : (if t120.toList = x3_2.toList then ((escape_Value.f x3_2).bind fun t121 => (some (t121.toList == x3_2.toList))) else (some false)) = some r := H
                  have A21 := Aside0.mk A210
                  clear A210
                  by_cases c22 : t120.toList = x3_2.toList
                  · rw [if_pos c22] at H
                    have c22b0 : (t120.toList == x3_2.toList) = true := beq_iff_eq.mpr c22
                    have c22b1 : (t120.toList != x3_2.toList) = false := bne_eq_false_iff_eq.mpr c22
                    clear c22
                    replace H := Option.bind_eq_some_iff.mp H
                    obtain ⟨t121, A230, H⟩ := H
                    replace H : (some (t121.toList == x3_2.toList)) = some r := H
                    have A23 := Aside0.mk A230
                    clear A230
                    obtain rfl := Option.some.inj H
                    go_wp2_with (first | ((with_reducible refine gate_callee (f := 9) rfl ?_); refine goesL_ (some 29) rfl rfl Try.func9 (by kernel_rfl) rfl #[.string a0] rfl (by (try simp only [List.map_toArray, List.map_cons, List.map_nil]); first | done | rfl | (simp only [List.length_drop, List.length_take]; rfl)) ?_; (with_reducible refine (escape_Text.calls a0 t117 _ A16.out).mono ?_); rintro e w24 ⟨rfl, hb⟩; refine ⟨_, rfl, ?_⟩; have n0_ := Aside0.mk (below_step (by repeat (first | (with_reducible first | exact HB.out | apply below_alloc | apply pw_below_drewN | apply below_drew1) | exact HB.out)) hb); clear HB; have HB := n0_; clear n0_; (try clear hb); (try clear hb2); (try clear hk); (try clear hi)) | (go_at_call 10; (with_reducible refine (escape_Value.calls a0 t118 _ A18.out).mono ?_); rintro e w25 ⟨rfl, hb⟩; have n0_ := Aside0.mk (below_step (by repeat (first | (with_reducible first | exact HB.out | apply below_alloc | apply pw_below_drewN | apply below_drew1) | exact HB.out)) hb); clear HB; have HB := n0_; clear n0_; (try clear hb); (try clear hb2); (try clear hk); (try clear hi)) | (go_at_call 9; (with_reducible refine (escape_Text.calls a0 t119 _ A19.out).mono ?_); rintro e w26 ⟨rfl, hb⟩; have n0_ := Aside0.mk (below_step (by repeat (first | (with_reducible first | exact HB.out | apply below_alloc | apply pw_below_drewN | apply below_drew1) | exact HB.out)) hb); clear HB; have HB := n0_; clear n0_; (try clear hb); (try clear hb2); (try clear hk); (try clear hi)) | (go_at_call 9; (with_reducible refine (escape_Text.calls x3_2 t120 _ A21.out).mono ?_); rintro e w27 ⟨rfl, hb⟩; have n0_ := Aside0.mk (below_step (by repeat (first | (with_reducible first | exact HB.out | apply below_alloc | apply pw_below_drewN | apply below_drew1) | exact HB.out)) hb); clear HB; have HB := n0_; clear n0_; (try clear hb); (try clear hb2); (try clear hk); (try clear hi)) | (go_at_call 10; (with_reducible refine (escape_Value.calls x3_2 t121 _ A23.out).mono ?_); rintro e w28 ⟨rfl, hb⟩; have n0_ := Aside0.mk (below_step (by repeat (first | (with_reducible first | exact HB.out | apply below_alloc | apply pw_below_drewN | apply below_drew1) | exact HB.out)) hb); clear HB; have HB := n0_; clear n0_; (try clear hb); (try clear hb2); (try clear hk); (try clear hi)))
                    go_ret
                    exact ⟨by first | rfl | (simp [errW_none, errW_some] <;> rfl) | (simp [*, errW_none, errW_some] <;> rfl), by repeat (first | (with_reducible first | exact HB.out | apply below_alloc | apply pw_below_drewN | apply below_drew1) | exact HB.out)⟩
                  · rw [if_neg c22] at H
                    have c22b0 : (t120.toList == x3_2.toList) = false := beq_eq_false_iff_ne.mpr c22
                    have c22b1 : (t120.toList != x3_2.toList) = true := bne_iff_ne.mpr c22
                    obtain rfl := Option.some.inj H
                    go_wp2_with (first | ((with_reducible refine gate_callee (f := 9) rfl ?_); refine goesL_ (some 29) rfl rfl Try.func9 (by kernel_rfl) rfl #[.string a0] rfl (by (try simp only [List.map_toArray, List.map_cons, List.map_nil]); first | done | rfl | (simp only [List.length_drop, List.length_take]; rfl)) ?_; (with_reducible refine (escape_Text.calls a0 t117 _ A16.out).mono ?_); rintro e w29 ⟨rfl, hb⟩; refine ⟨_, rfl, ?_⟩; have n0_ := Aside0.mk (below_step (by repeat (first | (with_reducible first | exact HB.out | apply below_alloc | apply pw_below_drewN | apply below_drew1) | exact HB.out)) hb); clear HB; have HB := n0_; clear n0_; (try clear hb); (try clear hb2); (try clear hk); (try clear hi)) | (go_at_call 10; (with_reducible refine (escape_Value.calls a0 t118 _ A18.out).mono ?_); rintro e w30 ⟨rfl, hb⟩; have n0_ := Aside0.mk (below_step (by repeat (first | (with_reducible first | exact HB.out | apply below_alloc | apply pw_below_drewN | apply below_drew1) | exact HB.out)) hb); clear HB; have HB := n0_; clear n0_; (try clear hb); (try clear hb2); (try clear hk); (try clear hi)) | (go_at_call 9; (with_reducible refine (escape_Text.calls a0 t119 _ A19.out).mono ?_); rintro e w31 ⟨rfl, hb⟩; have n0_ := Aside0.mk (below_step (by repeat (first | (with_reducible first | exact HB.out | apply below_alloc | apply pw_below_drewN | apply below_drew1) | exact HB.out)) hb); clear HB; have HB := n0_; clear n0_; (try clear hb); (try clear hb2); (try clear hk); (try clear hi)) | (go_at_call 9; (with_reducible refine (escape_Text.calls x3_2 t120 _ A21.out).mono ?_); rintro e w32 ⟨rfl, hb⟩; have n0_ := Aside0.mk (below_step (by repeat (first | (with_reducible first | exact HB.out | apply below_alloc | apply pw_below_drewN | apply below_drew1) | exact HB.out)) hb); clear HB; have HB := n0_; clear n0_; (try clear hb); (try clear hb2); (try clear hk); (try clear hi)))
                    go_ret
                    exact ⟨by first | rfl | (simp [errW_none, errW_some] <;> rfl) | (simp [*, errW_none, errW_some] <;> rfl), by repeat (first | (with_reducible first | exact HB.out | apply below_alloc | apply pw_below_drewN | apply below_drew1) | exact HB.out)⟩
                · rw [if_neg c20] at H
                  have c20b0 : decide ((t119.size : Int) ≤ (t118.size : Int)) = false := decide_eq_false c20
                  have c20b1 : decide (t119.size ≤ t118.size) = false := decide_eq_false (fun h => c20 (Int.ofNat_le.mpr h))
                  clear c20
                  obtain rfl := Option.some.inj H
                  go_wp2_with (first | ((with_reducible refine gate_callee (f := 9) rfl ?_); refine goesL_ (some 29) rfl rfl Try.func9 (by kernel_rfl) rfl #[.string a0] rfl (by (try simp only [List.map_toArray, List.map_cons, List.map_nil]); first | done | rfl | (simp only [List.length_drop, List.length_take]; rfl)) ?_; (with_reducible refine (escape_Text.calls a0 t117 _ A16.out).mono ?_); rintro e w33 ⟨rfl, hb⟩; refine ⟨_, rfl, ?_⟩; have n0_ := Aside0.mk (below_step (by repeat (first | (with_reducible first | exact HB.out | apply below_alloc | apply pw_below_drewN | apply below_drew1) | exact HB.out)) hb); clear HB; have HB := n0_; clear n0_; (try clear hb); (try clear hb2); (try clear hk); (try clear hi)) | (go_at_call 10; (with_reducible refine (escape_Value.calls a0 t118 _ A18.out).mono ?_); rintro e w34 ⟨rfl, hb⟩; have n0_ := Aside0.mk (below_step (by repeat (first | (with_reducible first | exact HB.out | apply below_alloc | apply pw_below_drewN | apply below_drew1) | exact HB.out)) hb); clear HB; have HB := n0_; clear n0_; (try clear hb); (try clear hb2); (try clear hk); (try clear hi)) | (go_at_call 9; (with_reducible refine (escape_Text.calls a0 t119 _ A19.out).mono ?_); rintro e w35 ⟨rfl, hb⟩; have n0_ := Aside0.mk (below_step (by repeat (first | (with_reducible first | exact HB.out | apply below_alloc | apply pw_below_drewN | apply below_drew1) | exact HB.out)) hb); clear HB; have HB := n0_; clear n0_; (try clear hb); (try clear hb2); (try clear hk); (try clear hi)))
                  go_ret
                  exact ⟨by first | rfl | (simp [errW_none, errW_some] <;> rfl) | (simp [*, errW_none, errW_some] <;> rfl), by repeat (first | (with_reducible first | exact HB.out | apply below_alloc | apply pw_below_drewN | apply below_drew1) | exact HB.out)⟩
              · rw [if_neg c17] at H
                have c17b0 : decide ((a0.size : Int) ≤ (t117.size : Int)) = false := decide_eq_false c17
                have c17b1 : decide (a0.size ≤ t117.size) = false := decide_eq_false (fun h => c17 (Int.ofNat_le.mpr h))
                clear c17
                obtain rfl := Option.some.inj H
                go_wp2_with (first | ((with_reducible refine gate_callee (f := 9) rfl ?_); refine goesL_ (some 29) rfl rfl Try.func9 (by kernel_rfl) rfl #[.string a0] rfl (by (try simp only [List.map_toArray, List.map_cons, List.map_nil]); first | done | rfl | (simp only [List.length_drop, List.length_take]; rfl)) ?_; (with_reducible refine (escape_Text.calls a0 t117 _ A16.out).mono ?_); rintro e w36 ⟨rfl, hb⟩; refine ⟨_, rfl, ?_⟩; have n0_ := Aside0.mk (below_step (by repeat (first | (with_reducible first | exact HB.out | apply below_alloc | apply pw_below_drewN | apply below_drew1) | exact HB.out)) hb); clear HB; have HB := n0_; clear n0_; (try clear hb); (try clear hb2); (try clear hk); (try clear hi)))
                go_ret
                exact ⟨by first | rfl | (simp [errW_none, errW_some] <;> rfl) | (simp [*, errW_none, errW_some] <;> rfl), by repeat (first | (with_reducible first | exact HB.out | apply below_alloc | apply pw_below_drewN | apply below_drew1) | exact HB.out)⟩

/-- THE ONE PURE STATEMENT of portierelaw05_EscapeLong: yours. -/
def portierelaw05_EscapeLong.Pure : Prop := ∀ (a0 : ByteArray), a0.size ≤ 140737488351232 → ∃ k, portierelaw05_EscapeLong.f k a0 = some true
theorem portierelaw05_EscapeLong.walk (P : portierelaw05_EscapeLong.Pure) (a0 : ByteArray) (w : World) (w0 : a0.size ≤ 140737488351232) :
    Calls Try.prog 3 #[.string a0] w fun e w' => e = .returned (.bool true) ∧ Below w.heap.size w w' := by
  obtain ⟨k, h⟩ := P a0 w0
  refine (portierelaw05_EscapeLong.calls k a0 true w h).mono ?_
  rintro e w' ⟨rfl, hd⟩
  exact ⟨rfl, hd⟩

/-! ### portierelaw05_EscapeTwice: function 4 -/
mutual
def portierelaw05_EscapeTwice.j0 : Nat → ByteArray → Bool → Option (Bool)
  | 0, _, _ => none
  | k + 1, x0, x12 => if x12 = true then ((portierelaw05_known.f).bind fun t123 => (some t123)) else ((escape_Text.f x0).bind fun t124 => ((escape_Text.f t124).bind fun t125 => (portierelaw05_EscapeTwice.l0 k t124 t125 0)))
def portierelaw05_EscapeTwice.l0 : Nat → ByteArray → ByteArray → Int → Option (Bool)
  | 0, _, _, _ => none
  | k + 1, x3, x4, x5 => if x5 < (x3.size : Int) then (if 0 ≤ x5 then (if (bt x3 x5) = 38 then (if (wrap64 (x5 + 3)) ≥ (x3.size : Int) then (some false) else (if 0 ≤ (wrap64 (x5 + 1)) then (if (wrap64 (x5 + 1)) < (x3.size : Int) then (if (bt x3 (wrap64 (x5 + 1))) = 97 then (portierelaw05_EscapeTwice.l0 k x3 x4 (wrap64 (x5 + 1))) else (if (bt x3 (wrap64 (x5 + 1))) = 108 then (portierelaw05_EscapeTwice.l0 k x3 x4 (wrap64 (x5 + 1))) else (if (bt x3 (wrap64 (x5 + 1))) = 103 then (portierelaw05_EscapeTwice.l0 k x3 x4 (wrap64 (x5 + 1))) else (if ((bt x3 (wrap64 (x5 + 1))) = 110) then (portierelaw05_EscapeTwice.l0 k x3 x4 (wrap64 (x5 + 1))) else (some false))))) else (none)) else (none))) else (portierelaw05_EscapeTwice.l0 k x3 x4 (wrap64 (x5 + 1)))) else (none)) else (some (decide ((x4.size : Int) ≥ (x3.size : Int))))
end
def portierelaw05_EscapeTwice.f (k : Nat) (a0 : ByteArray) : Option (Bool) := if (a0.size : Int) > 500 then (portierelaw05_EscapeTwice.j0 k a0 true) else ((portierelaw05_known.f).bind fun t122 => (portierelaw05_EscapeTwice.j0 k a0 (!t122)))
theorem portierelaw05_EscapeTwice.mono_l : ∀ k, (∀ y0 y1, LeO (portierelaw05_EscapeTwice.j0 k y0 y1) (portierelaw05_EscapeTwice.j0 (k + 1) y0 y1)) ∧ (∀ y0 y1 y2, LeO (portierelaw05_EscapeTwice.l0 k y0 y1 y2) (portierelaw05_EscapeTwice.l0 (k + 1) y0 y1 y2))
  | 0 => ⟨fun _ _ r h => by simp [portierelaw05_EscapeTwice.j0] at h, fun _ _ _ r h => by simp [portierelaw05_EscapeTwice.l0] at h⟩
  | k + 1 => by
    obtain ⟨ih0, ih1⟩ := portierelaw05_EscapeTwice.mono_l k
    refine ⟨?_, ?_⟩
    · intro y0 y1
      unfold portierelaw05_EscapeTwice.j0
      repeat' first
      | (with_reducible exact ih0 _ _)
      | (with_reducible exact ih1 _ _ _)
      | (with_reducible exact LeO.refl _)
      | (with_reducible exact LeO.none _)
      | (with_reducible refine LeO.ite ?_ ?_)
      | (with_reducible refine LeO.bind ?_ (fun _ => ?_))
      | exact ih0 _ _
      | exact ih1 _ _ _
      | exact LeO.none _
      | refine LeO.ite ?_ ?_
      | refine LeO.bind ?_ (fun _ => ?_)
    · intro y0 y1 y2
      unfold portierelaw05_EscapeTwice.l0
      repeat' first
      | (with_reducible exact ih0 _ _)
      | (with_reducible exact ih1 _ _ _)
      | (with_reducible exact LeO.refl _)
      | (with_reducible exact LeO.none _)
      | (with_reducible refine LeO.ite ?_ ?_)
      | (with_reducible refine LeO.bind ?_ (fun _ => ?_))
      | exact ih0 _ _
      | exact ih1 _ _ _
      | exact LeO.none _
      | refine LeO.ite ?_ ?_
      | refine LeO.bind ?_ (fun _ => ?_)
theorem portierelaw05_EscapeTwice.mono : ∀ a0 k, LeO (portierelaw05_EscapeTwice.f k a0) (portierelaw05_EscapeTwice.f (k + 1) a0) := by
  intro a0 k
  obtain ⟨ih0, ih1⟩ := portierelaw05_EscapeTwice.mono_l k
  unfold portierelaw05_EscapeTwice.f
  repeat' first
      | (with_reducible exact ih0 _ _)
      | (with_reducible exact ih1 _ _ _)
      | (with_reducible exact LeO.refl _)
      | (with_reducible exact LeO.none _)
      | (with_reducible refine LeO.ite ?_ ?_)
      | (with_reducible refine LeO.bind ?_ (fun _ => ?_))
      | exact ih0 _ _
      | exact ih1 _ _ _
      | exact LeO.none _
      | refine LeO.ite ?_ ?_
      | refine LeO.bind ?_ (fun _ => ?_)
set_option maxHeartbeats 8000000 in
set_option maxRecDepth 100000 in
theorem portierelaw05_EscapeTwice.calls (k : Nat) (a0 : ByteArray) (r : Bool) (w : World) (h : portierelaw05_EscapeTwice.f k a0 = some r) :
    Calls Try.prog 4 #[.string a0] w fun e w' => e = .returned (.bool r) ∧ Below w.heap.size w w' := by
  have HB := Aside0.mk (Below.refl w.heap.size w)
  have H : (if (a0.size : Int) > 500 then (portierelaw05_EscapeTwice.j0 k a0 true) else ((portierelaw05_known.f).bind fun t122 => (portierelaw05_EscapeTwice.j0 k a0 (!t122)))) = some r := h
  clear h
  have HC2 := Aside0.mk H
  clear H
  go_enter Try.func4, Try.ntmps4
  go_upto_region 1 with (fail)
  go_cut [12] (fun v12 wc => ∃ (kq : Nat) (x12_1 : Bool), v12 = .bool x12_1 ∧ Aside0 (portierelaw05_EscapeTwice.j0 kq a0 x12_1 = some r) ∧ Aside0 (kq ≤ k) ∧ Aside0 (Below w.heap.size w wc))
  case first =>
    have H := HC2.out
    clear HC2
    by_cases c3 : (a0.size : Int) > 500
    · rw [if_pos c3] at H
      have c3b0 : decide (500 < (a0.size : Int)) = true := decide_eq_true c3
      have c3b1 : decide (500 < a0.size) = true := decide_eq_true (by omega)
      clear c3
      (first | rw [c3b0] | (simp only [i64_w, i32_w]; rw [c3b0]) | skip)
      have H' := Aside0.mk H
      clear H
      go_wp2
      go_meet
      case rel => exact ⟨_, (true), (by first | rfl | (simp; done) | (simp [*]; done)), H', ⟨by first | omega | exact Nat.le_refl _⟩, ⟨by repeat (first | (with_reducible first | exact HB.out | apply below_alloc | apply pw_below_drewN | apply below_drew1) | exact HB.out)⟩⟩
    · rw [if_neg c3] at H
      have c3b0 : decide (500 < (a0.size : Int)) = false := decide_eq_false c3
      have c3b1 : decide (500 < a0.size) = false := decide_eq_false (by omega)
      clear c3
      (first | rw [c3b0] | (simp only [i64_w, i32_w]; rw [c3b0]) | skip)
      replace H := Option.bind_eq_some_iff.mp H
      obtain ⟨t122, A40, H⟩ := H
      replace H : (portierelaw05_EscapeTwice.j0 k a0 (!t122)) = some r := H
      have A4 := Aside0.mk A40
      clear A40
      have H' := Aside0.mk H
      clear H
      go_wp2_with (first | (go_at_call 8; (with_reducible refine (portierelaw05_known.calls  t122 _ A4.out).mono ?_); rintro e w5 ⟨rfl, hb⟩; have n0_ := Aside0.mk (below_step (by repeat (first | (with_reducible first | exact HB.out | apply below_alloc | apply pw_below_drewN | apply below_drew1) | exact HB.out)) hb); clear HB; have HB := n0_; clear n0_; (try clear hb); (try clear hb2); (try clear hk); (try clear hi)))
      go_meet
      case rel => exact ⟨_, (!t122), (by first | rfl | (simp; done) | (simp [*]; done)), H', ⟨by first | omega | exact Nat.le_refl _⟩, ⟨by repeat (first | (with_reducible first | exact HB.out | apply below_alloc | apply pw_below_drewN | apply below_drew1) | exact HB.out)⟩⟩
  case rest =>
    clear HC2
    try clear p2
    try clear c3
    try clear c3b0
    try clear c3b1
    try clear c4
    obtain ⟨kq, x12_1, rfl, HA, HJ1, HB⟩ := hcut
    cases kq with
    | zero => exact absurd HA.out (by simp [portierelaw05_EscapeTwice.j0])
    | succ kj1 =>
      have H := HA.out
      clear HA
      simp only [portierelaw05_EscapeTwice.j0] at H
      by_cases c6 : x12_1 = true
      · subst c6
        have H1 : ((portierelaw05_known.f).bind fun t123 => (some t123)) = some r := by rw [if_pos rfl] at H; exact H
        clear H
        have H := H1
        clear H1
        replace H := Option.bind_eq_some_iff.mp H
        obtain ⟨t123, A70, H⟩ := H
        replace H : (some t123) = some r := H
        have A7 := Aside0.mk A70
        clear A70
        obtain rfl := Option.some.inj H
        go_wp2_with (first | ((with_reducible refine gate_callee (f := 8) rfl ?_); refine goesL_ (some 13) rfl rfl Try.func8 (by kernel_rfl) rfl #[] rfl (by (try simp only [List.map_toArray, List.map_cons, List.map_nil]); first | done | rfl | (simp only [List.length_drop, List.length_take]; rfl)) ?_; (with_reducible refine (portierelaw05_known.calls  t123 _ A7.out).mono ?_); rintro e w8 ⟨rfl, hb⟩; refine ⟨_, rfl, ?_⟩; have n0_ := Aside0.mk (below_step (by repeat (first | (with_reducible first | exact HB.out | apply below_alloc | apply pw_below_drewN | apply below_drew1) | exact HB.out)) hb); clear HB; have HB := n0_; clear n0_; (try clear hb); (try clear hb2); (try clear hk); (try clear hi)))
        go_ret
        exact ⟨by first | rfl | (simp [errW_none, errW_some] <;> rfl) | (simp [*, errW_none, errW_some] <;> rfl), by repeat (first | (with_reducible first | exact HB.out | apply below_alloc | apply pw_below_drewN | apply below_drew1) | exact HB.out)⟩
      · replace c6 := Bool.eq_false_iff.mpr c6
        subst c6
        have H1 : ((escape_Text.f a0).bind fun t124 => ((escape_Text.f t124).bind fun t125 => (portierelaw05_EscapeTwice.l0 kj1 t124 t125 0))) = some r := by rw [if_neg (show ¬ (false = true) by decide)] at H; exact H
        clear H
        have H := H1
        clear H1
        replace H := Option.bind_eq_some_iff.mp H
        obtain ⟨t124, A90, H⟩ := H
        replace H : ((escape_Text.f t124).bind fun t125 => (portierelaw05_EscapeTwice.l0 kj1 t124 t125 0)) = some r := H
        have A9 := Aside0.mk A90
        clear A90
        replace H := Option.bind_eq_some_iff.mp H
        obtain ⟨t125, A100, H⟩ := H
        replace H : (portierelaw05_EscapeTwice.l0 kj1 t124 t125 0) = some r := H
        have A10 := Aside0.mk A100
        clear A100
        have H' := Aside0.mk H
        clear H
        go_wp2_with (first | ((with_reducible refine gate_callee (f := 9) rfl ?_); refine goesL_ (some 15) rfl rfl Try.func9 (by kernel_rfl) rfl #[.string a0] rfl (by (try simp only [List.map_toArray, List.map_cons, List.map_nil]); first | done | rfl | (simp only [List.length_drop, List.length_take]; rfl)) ?_; (with_reducible refine (escape_Text.calls a0 t124 _ A9.out).mono ?_); rintro e w11 ⟨rfl, hb⟩; refine ⟨_, rfl, ?_⟩; have n0_ := Aside0.mk (below_step (by repeat (first | (with_reducible first | exact HB.out | apply below_alloc | apply pw_below_drewN | apply below_drew1) | exact HB.out)) hb); clear HB; have HB := n0_; clear n0_; (try clear hb); (try clear hb2); (try clear hk); (try clear hi)) | ((with_reducible refine gate_callee (f := 9) rfl ?_); refine goesL_ (some 17) rfl rfl Try.func9 (by kernel_rfl) rfl #[.string t124] rfl (by (try simp only [List.map_toArray, List.map_cons, List.map_nil]); first | done | rfl | (simp only [List.length_drop, List.length_take]; rfl)) ?_; (with_reducible refine (escape_Text.calls t124 t125 _ A10.out).mono ?_); rintro e w12 ⟨rfl, hb⟩; refine ⟨_, rfl, ?_⟩; have n0_ := Aside0.mk (below_step (by repeat (first | (with_reducible first | exact HB.out | apply below_alloc | apply pw_below_drewN | apply below_drew1) | exact HB.out)) hb); clear HB; have HB := n0_; clear n0_; (try clear hb); (try clear hb2); (try clear hk); (try clear hi)))
        go_loopg [5] kj1 (fun kq v5 w' => ∃ (x5_2 : Int), v5 = .int .i64 x5_2 ∧ Aside0 (portierelaw05_EscapeTwice.l0 kq t124 t125 x5_2 = some r) ∧ Aside0 (kq ≤ kj1) ∧ Aside0 (Below w.heap.size w w'))
        case atStart => exact ⟨(0), (by first | rfl | (simp; done) | (simp [*]; done)), H', ⟨Nat.le_refl _⟩, ⟨by repeat (first | (with_reducible first | exact HB.out | apply below_alloc | apply pw_below_drewN | apply below_drew1) | exact HB.out)⟩⟩
        case round =>
          clear H'
          try clear p2
          try clear c3
          try clear c3b0
          try clear c3b1
          try clear c4
          try clear c6
          try clear c8
          try clear c9
          try clear p2
          obtain ⟨x5_2, rfl, HA, HK2, HB⟩ := hrel
          cases gk with
          | zero => exact absurd HA.out (by simp [portierelaw05_EscapeTwice.l0])
          | succ k2 =>
            have H := HA.out
            clear HA
            simp only [portierelaw05_EscapeTwice.l0] at H
            by_cases c13 : x5_2 < (t124.size : Int)
            · rw [if_pos c13] at H
              have c13b0 : decide (x5_2 < (t124.size : Int)) = true := decide_eq_true c13
              clear c13
              by_cases c14 : 0 ≤ x5_2
              · rw [if_pos c14] at H
                have c14b0 : decide (0 ≤ x5_2) = true := decide_eq_true c14
                clear c14
                by_cases c16 : (bt t124 x5_2) = 38
                · rw [if_pos c16] at H
                  have c16b0 : ((bt t124 x5_2) == 38) = true := beq_iff_eq.mpr c16
                  have c16b1 : ((bt t124 x5_2) != 38) = false := bne_eq_false_iff_eq.mpr c16
                  clear c16
                  by_cases c17 : (wrap64 (x5_2 + 3)) ≥ (t124.size : Int)
                  · rw [if_pos c17] at H
                    (try (have c17u : (((x5_2 + 3)) ≥ (t124.size : Int)) := by (have h_ := c17; unfold wrap64 at h_; omega)))
                    (try (have c17ub0 : decide ((t124.size : Int) ≤ ((x5_2 + 3))) = true := decide_eq_true c17u))
                    (try clear c17u)
                    have c17b0 : decide ((t124.size : Int) ≤ (wrap64 (x5_2 + 3))) = true := decide_eq_true c17
                    clear c17
                    obtain rfl := Option.some.inj H
                    have p15 : 0 ≤ (x5_2 : Int) := of_decide_eq_true (by first | (with_reducible assumption) | assumption)
                    have q15 : x5_2 < (t124.size : Int) := of_decide_eq_true (by first | (with_reducible assumption) | assumption)
                    have hx15 := bt_at t124 x5_2
                    replace p15 := eq_true p15
                    replace q15 := eq_true q15
                    go_wp2
                    go_ret
                    exact ⟨by first | rfl | (simp [errW_none, errW_some] <;> rfl) | (simp [*, errW_none, errW_some] <;> rfl), by repeat (first | (with_reducible first | exact HB.out | apply below_alloc | apply pw_below_drewN | apply below_drew1) | exact HB.out)⟩
                  · rw [if_neg c17] at H
                    (try (have c17u : ¬ (((x5_2 + 3)) ≥ (t124.size : Int)) := by (have h_ := c17; unfold wrap64 at h_; omega)))
                    (try (have c17ub0 : decide ((t124.size : Int) ≤ ((x5_2 + 3))) = false := decide_eq_false c17u))
                    (try clear c17u)
                    have c17b0 : decide ((t124.size : Int) ≤ (wrap64 (x5_2 + 3))) = false := decide_eq_false c17
                    clear c17
                    obtain ⟨ji18, hji18⟩ : ∃ j_ : Int, (wrap64 (x5_2 + 1)) = j_ := ⟨_, rfl⟩
                    replace H : (if 0 ≤ (ji18) then (if (ji18) < (t124.size : Int) then (if (bt t124 (ji18)) = 97 then (portierelaw05_EscapeTwice.l0 k2 t124 t125 ji18) else (if (bt t124 (ji18)) = 108 then (portierelaw05_EscapeTwice.l0 k2 t124 t125 ji18) else (if (bt t124 (ji18)) = 103 then (portierelaw05_EscapeTwice.l0 k2 t124 t125 ji18) else (if ((bt t124 (ji18)) = 110) then (portierelaw05_EscapeTwice.l0 k2 t124 t125 ji18) else (some false))))) else (none)) else (none)) = some r := by first | (rw [hji18] at H; exact H) | (simp only [hji18] at H ⊢; exact H)
                    have hji18w : (IntKind.i64.wrap (x5_2 + 1)) = ji18 := (i64_w _).trans hji18
                    by_cases c19 : 0 ≤ (ji18)
                    · rw [if_pos c19] at H
                      have c19b0 : decide (0 ≤ (ji18)) = true := decide_eq_true c19
                      clear c19
                      by_cases c20 : (ji18) < (t124.size : Int)
                      · rw [if_pos c20] at H
                        have c20b0 : decide ((ji18) < (t124.size : Int)) = true := decide_eq_true c20
                        clear c20
                        by_cases c22 : (bt t124 (ji18)) = 97
                        · rw [if_pos c22] at H
                          have c22b0 : ((bt t124 (ji18)) == 97) = true := beq_iff_eq.mpr c22
                          have c22b1 : ((bt t124 (ji18)) != 97) = false := bne_eq_false_iff_eq.mpr c22
                          clear c22
                          have H' := Aside0.mk H
                          clear H
                          have p15 : 0 ≤ (x5_2 : Int) := of_decide_eq_true (by first | (with_reducible assumption) | assumption)
                          have q15 : x5_2 < (t124.size : Int) := of_decide_eq_true (by first | (with_reducible assumption) | assumption)
                          have hx15 := bt_at t124 x5_2
                          replace p15 := eq_true p15
                          replace q15 := eq_true q15
                          have p21 : 0 ≤ ((ji18) : Int) := of_decide_eq_true (by first | (with_reducible assumption) | assumption)
                          have q21 : (ji18) < (t124.size : Int) := of_decide_eq_true (by first | (with_reducible assumption) | assumption)
                          have hx21 := bt_at t124 (ji18)
                          replace p21 := eq_true p21
                          replace q21 := eq_true q21
                          go_wp2
                          go_roundg k2
                          case measure => have := HJ1.out; have := HK2.out; omega
                          case rel => exact ⟨(ji18), (by first | rfl | (simp; done) | (simp only [← hji18] <;> (first | rfl | simp)) | (simp [*]; done)), H', ⟨by have := HJ1.out; have := HK2.out; omega⟩, ⟨by repeat (first | (with_reducible first | exact HB.out | apply below_alloc | apply pw_below_drewN | apply below_drew1) | exact HB.out)⟩⟩
                        · rw [if_neg c22] at H
                          have c22b0 : ((bt t124 (ji18)) == 97) = false := beq_eq_false_iff_ne.mpr c22
                          have c22b1 : ((bt t124 (ji18)) != 97) = true := bne_iff_ne.mpr c22
                          by_cases c24 : (bt t124 (ji18)) = 108
                          · rw [if_pos c24] at H
                            have c24b0 : ((bt t124 (ji18)) == 108) = true := beq_iff_eq.mpr c24
                            have c24b1 : ((bt t124 (ji18)) != 108) = false := bne_eq_false_iff_eq.mpr c24
                            clear c24
                            have H' := Aside0.mk H
                            clear H
                            have p15 : 0 ≤ (x5_2 : Int) := of_decide_eq_true (by first | (with_reducible assumption) | assumption)
                            have q15 : x5_2 < (t124.size : Int) := of_decide_eq_true (by first | (with_reducible assumption) | assumption)
                            have hx15 := bt_at t124 x5_2
                            replace p15 := eq_true p15
                            replace q15 := eq_true q15
                            have p21 : 0 ≤ ((ji18) : Int) := of_decide_eq_true (by first | (with_reducible assumption) | assumption)
                            have q21 : (ji18) < (t124.size : Int) := of_decide_eq_true (by first | (with_reducible assumption) | assumption)
                            have hx21 := bt_at t124 (ji18)
                            replace p21 := eq_true p21
                            replace q21 := eq_true q21
                            have p23 : 0 ≤ ((ji18) : Int) := of_decide_eq_true (by first | (with_reducible assumption) | assumption)
                            have q23 : (ji18) < (t124.size : Int) := of_decide_eq_true (by first | (with_reducible assumption) | assumption)
                            have hx23 := bt_at t124 (ji18)
                            replace p23 := eq_true p23
                            replace q23 := eq_true q23
                            go_wp2
                            go_roundg k2
                            case measure => have := HJ1.out; have := HK2.out; omega
                            case rel => exact ⟨(ji18), (by first | rfl | (simp; done) | (simp only [← hji18] <;> (first | rfl | simp)) | (simp [*]; done)), H', ⟨by have := HJ1.out; have := HK2.out; omega⟩, ⟨by repeat (first | (with_reducible first | exact HB.out | apply below_alloc | apply pw_below_drewN | apply below_drew1) | exact HB.out)⟩⟩
                          · rw [if_neg c24] at H
                            have c24b0 : ((bt t124 (ji18)) == 108) = false := beq_eq_false_iff_ne.mpr c24
                            have c24b1 : ((bt t124 (ji18)) != 108) = true := bne_iff_ne.mpr c24
                            by_cases c26 : (bt t124 (ji18)) = 103
                            · rw [if_pos c26] at H
                              have c26b0 : ((bt t124 (ji18)) == 103) = true := beq_iff_eq.mpr c26
                              have c26b1 : ((bt t124 (ji18)) != 103) = false := bne_eq_false_iff_eq.mpr c26
                              clear c26
                              have H' := Aside0.mk H
                              clear H
                              have p15 : 0 ≤ (x5_2 : Int) := of_decide_eq_true (by first | (with_reducible assumption) | assumption)
                              have q15 : x5_2 < (t124.size : Int) := of_decide_eq_true (by first | (with_reducible assumption) | assumption)
                              have hx15 := bt_at t124 x5_2
                              replace p15 := eq_true p15
                              replace q15 := eq_true q15
                              have p21 : 0 ≤ ((ji18) : Int) := of_decide_eq_true (by first | (with_reducible assumption) | assumption)
                              have q21 : (ji18) < (t124.size : Int) := of_decide_eq_true (by first | (with_reducible assumption) | assumption)
                              have hx21 := bt_at t124 (ji18)
                              replace p21 := eq_true p21
                              replace q21 := eq_true q21
                              have p23 : 0 ≤ ((ji18) : Int) := of_decide_eq_true (by first | (with_reducible assumption) | assumption)
                              have q23 : (ji18) < (t124.size : Int) := of_decide_eq_true (by first | (with_reducible assumption) | assumption)
                              have hx23 := bt_at t124 (ji18)
                              replace p23 := eq_true p23
                              replace q23 := eq_true q23
                              have p25 : 0 ≤ ((ji18) : Int) := of_decide_eq_true (by first | (with_reducible assumption) | assumption)
                              have q25 : (ji18) < (t124.size : Int) := of_decide_eq_true (by first | (with_reducible assumption) | assumption)
                              have hx25 := bt_at t124 (ji18)
                              replace p25 := eq_true p25
                              replace q25 := eq_true q25
                              go_wp2
                              go_roundg k2
                              case measure => have := HJ1.out; have := HK2.out; omega
                              case rel => exact ⟨(ji18), (by first | rfl | (simp; done) | (simp only [← hji18] <;> (first | rfl | simp)) | (simp [*]; done)), H', ⟨by have := HJ1.out; have := HK2.out; omega⟩, ⟨by repeat (first | (with_reducible first | exact HB.out | apply below_alloc | apply pw_below_drewN | apply below_drew1) | exact HB.out)⟩⟩
                            · rw [if_neg c26] at H
                              have c26b0 : ((bt t124 (ji18)) == 103) = false := beq_eq_false_iff_ne.mpr c26
                              have c26b1 : ((bt t124 (ji18)) != 103) = true := bne_iff_ne.mpr c26
                              by_cases c28 : ((bt t124 (ji18)) = 110)
                              · rw [if_pos c28] at H
                                have c28b0 : ((bt t124 (ji18)) == 110) = true := beq_iff_eq.mpr c28
                                have c28b1 : ((bt t124 (ji18)) != 110) = false := bne_eq_false_iff_eq.mpr c28
                                clear c28
                                have H' := Aside0.mk H
                                clear H
                                have p15 : 0 ≤ (x5_2 : Int) := of_decide_eq_true (by first | (with_reducible assumption) | assumption)
                                have q15 : x5_2 < (t124.size : Int) := of_decide_eq_true (by first | (with_reducible assumption) | assumption)
                                have hx15 := bt_at t124 x5_2
                                replace p15 := eq_true p15
                                replace q15 := eq_true q15
                                have p21 : 0 ≤ ((ji18) : Int) := of_decide_eq_true (by first | (with_reducible assumption) | assumption)
                                have q21 : (ji18) < (t124.size : Int) := of_decide_eq_true (by first | (with_reducible assumption) | assumption)
                                have hx21 := bt_at t124 (ji18)
                                replace p21 := eq_true p21
                                replace q21 := eq_true q21
                                have p23 : 0 ≤ ((ji18) : Int) := of_decide_eq_true (by first | (with_reducible assumption) | assumption)
                                have q23 : (ji18) < (t124.size : Int) := of_decide_eq_true (by first | (with_reducible assumption) | assumption)
                                have hx23 := bt_at t124 (ji18)
                                replace p23 := eq_true p23
                                replace q23 := eq_true q23
                                have p25 : 0 ≤ ((ji18) : Int) := of_decide_eq_true (by first | (with_reducible assumption) | assumption)
                                have q25 : (ji18) < (t124.size : Int) := of_decide_eq_true (by first | (with_reducible assumption) | assumption)
                                have hx25 := bt_at t124 (ji18)
                                replace p25 := eq_true p25
                                replace q25 := eq_true q25
                                have p27 : 0 ≤ ((ji18) : Int) := of_decide_eq_true (by first | (with_reducible assumption) | assumption)
                                have q27 : (ji18) < (t124.size : Int) := of_decide_eq_true (by first | (with_reducible assumption) | assumption)
                                have hx27 := bt_at t124 (ji18)
                                replace p27 := eq_true p27
                                replace q27 := eq_true q27
                                go_wp2
                                go_roundg k2
                                case measure => have := HJ1.out; have := HK2.out; omega
                                case rel => exact ⟨(ji18), (by first | rfl | (simp; done) | (simp only [← hji18] <;> (first | rfl | simp)) | (simp [*]; done)), H', ⟨by have := HJ1.out; have := HK2.out; omega⟩, ⟨by repeat (first | (with_reducible first | exact HB.out | apply below_alloc | apply pw_below_drewN | apply below_drew1) | exact HB.out)⟩⟩
                              · rw [if_neg c28] at H
                                have c28b0 : ((bt t124 (ji18)) == 110) = false := beq_eq_false_iff_ne.mpr c28
                                have c28b1 : ((bt t124 (ji18)) != 110) = true := bne_iff_ne.mpr c28
                                obtain rfl := Option.some.inj H
                                have p15 : 0 ≤ (x5_2 : Int) := of_decide_eq_true (by first | (with_reducible assumption) | assumption)
                                have q15 : x5_2 < (t124.size : Int) := of_decide_eq_true (by first | (with_reducible assumption) | assumption)
                                have hx15 := bt_at t124 x5_2
                                replace p15 := eq_true p15
                                replace q15 := eq_true q15
                                have p21 : 0 ≤ ((ji18) : Int) := of_decide_eq_true (by first | (with_reducible assumption) | assumption)
                                have q21 : (ji18) < (t124.size : Int) := of_decide_eq_true (by first | (with_reducible assumption) | assumption)
                                have hx21 := bt_at t124 (ji18)
                                replace p21 := eq_true p21
                                replace q21 := eq_true q21
                                have p23 : 0 ≤ ((ji18) : Int) := of_decide_eq_true (by first | (with_reducible assumption) | assumption)
                                have q23 : (ji18) < (t124.size : Int) := of_decide_eq_true (by first | (with_reducible assumption) | assumption)
                                have hx23 := bt_at t124 (ji18)
                                replace p23 := eq_true p23
                                replace q23 := eq_true q23
                                have p25 : 0 ≤ ((ji18) : Int) := of_decide_eq_true (by first | (with_reducible assumption) | assumption)
                                have q25 : (ji18) < (t124.size : Int) := of_decide_eq_true (by first | (with_reducible assumption) | assumption)
                                have hx25 := bt_at t124 (ji18)
                                replace p25 := eq_true p25
                                replace q25 := eq_true q25
                                have p27 : 0 ≤ ((ji18) : Int) := of_decide_eq_true (by first | (with_reducible assumption) | assumption)
                                have q27 : (ji18) < (t124.size : Int) := of_decide_eq_true (by first | (with_reducible assumption) | assumption)
                                have hx27 := bt_at t124 (ji18)
                                replace p27 := eq_true p27
                                replace q27 := eq_true q27
                                go_wp2
                                go_ret
                                exact ⟨by first | rfl | (simp [errW_none, errW_some] <;> rfl) | (simp only [← hji18]; first | rfl | (simp [errW_none, errW_some] <;> rfl)) | (simp [*, errW_none, errW_some] <;> rfl), by repeat (first | (with_reducible first | exact HB.out | apply below_alloc | apply pw_below_drewN | apply below_drew1) | exact HB.out)⟩
                      · rw [if_neg c20] at H
                        exact absurd H (by simp)
                    · rw [if_neg c19] at H
                      exact absurd H (by simp)
                · rw [if_neg c16] at H
                  have c16b0 : ((bt t124 x5_2) == 38) = false := beq_eq_false_iff_ne.mpr c16
                  have c16b1 : ((bt t124 x5_2) != 38) = true := bne_iff_ne.mpr c16
                  have H' := Aside0.mk H
                  clear H
                  have p15 : 0 ≤ (x5_2 : Int) := of_decide_eq_true (by first | (with_reducible assumption) | assumption)
                  have q15 : x5_2 < (t124.size : Int) := of_decide_eq_true (by first | (with_reducible assumption) | assumption)
                  have hx15 := bt_at t124 x5_2
                  replace p15 := eq_true p15
                  replace q15 := eq_true q15
                  go_wp2
                  go_roundg k2
                  case measure => have := HJ1.out; have := HK2.out; omega
                  case rel => exact ⟨(wrap64 (x5_2 + 1)), (by first | rfl | (simp; done) | (simp [*]; done)), H', ⟨by have := HJ1.out; have := HK2.out; omega⟩, ⟨by repeat (first | (with_reducible first | exact HB.out | apply below_alloc | apply pw_below_drewN | apply below_drew1) | exact HB.out)⟩⟩
              · rw [if_neg c14] at H
                exact absurd H (by simp)
            · rw [if_neg c13] at H
              have c13b0 : decide (x5_2 < (t124.size : Int)) = false := decide_eq_false c13
              clear c13
              obtain rfl := Option.some.inj H
              go_wp2
              go_ret
              exact ⟨by first | rfl | (simp [errW_none, errW_some] <;> rfl) | (simp [*, errW_none, errW_some] <;> rfl), by repeat (first | (with_reducible first | exact HB.out | apply below_alloc | apply pw_below_drewN | apply below_drew1) | exact HB.out)⟩

/-- THE ONE PURE STATEMENT of portierelaw05_EscapeTwice: yours. -/
def portierelaw05_EscapeTwice.Pure : Prop := ∀ (a0 : ByteArray), a0.size ≤ 140737488351232 → ∃ k, portierelaw05_EscapeTwice.f k a0 = some true
theorem portierelaw05_EscapeTwice.walk (P : portierelaw05_EscapeTwice.Pure) (a0 : ByteArray) (w : World) (w0 : a0.size ≤ 140737488351232) :
    Calls Try.prog 4 #[.string a0] w fun e w' => e = .returned (.bool true) ∧ Below w.heap.size w w' := by
  obtain ⟨k, h⟩ := P a0 w0
  refine (portierelaw05_EscapeTwice.calls k a0 true w h).mono ?_
  rintro e w' ⟨rfl, hd⟩
  exact ⟨rfl, hd⟩

end Go.Proofs.Ytebcdfdkgjcmmaa.P
