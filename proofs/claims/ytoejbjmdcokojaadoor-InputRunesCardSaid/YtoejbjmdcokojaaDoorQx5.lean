-- Written by wip/tools/gprint.py of this session, over the kit's print. Lean checks it.
import Derived.Test.YtoejbjmdcokojaaDoorQx0
import Derived.Test.YtoejbjmdcokojaaDoorQx1
import Derived.Test.YtoejbjmdcokojaaDoorQx2
namespace Go.Proofs.YtoejbjmdcokojaaDoor.Q
open Go.Proofs.YtoejbjmdcokojaaDoor.Hand
open Go.RowKit Go.Proofs.YtoejbjmdcokojaaDoorW.PrintWords Go.Proofs.YtoejbjmdcokojaaDoorW.PrintLast Go.Proofs.YtoejbjmdcokojaaDoorW.PrintMore
attribute [local go_sem] max2_int min2_int max_two min_two max_three min_three max_four min_four   -- for this text's walks alone
attribute [local go_sem] Go.IntKind.wrap_u32 conv_bytes
set_option linter.unusedVariables false
set_option linter.unusedSimpArgs false

/-! ### portierelaw01_InputRunes: function 8 -/
mutual
def portierelaw01_InputRunes.j0 : Nat → List Int → Bool → Bool → Option (Bool)
  | 0, _, _, _ => none
  | k + 1, x0, x1, x15 => if x15 = true then ((portierelaw01_known.f).bind fun t144 => (some t144)) else (portierelaw01_InputRunes.l0 k x0 x1 ([] : List Int) 0)
def portierelaw01_InputRunes.l0 : Nat → List Int → Bool → List Int → Int → Option (Bool)
  | 0, _, _, _, _ => none
  | k + 1, x0, x1, x5, x6 => if x6 < (x0.length : Int) then (if 0 ≤ x6 then (if (rd x0 x6) < 0 then (if x5.length < 35184372088832 then (portierelaw01_InputRunes.l0 k x0 x1 (x5 ++ [120]) (wrap64 (x6 + 1))) else (none)) else (if (rd x0 x6) > 1114111 then (if x5.length < 35184372088832 then (portierelaw01_InputRunes.l0 k x0 x1 (x5 ++ [120]) (wrap64 (x6 + 1))) else (none)) else (if (rd x0 x6) ≥ 55296 then (if (rd x0 x6) ≤ 57343 then (if x5.length < 35184372088832 then (portierelaw01_InputRunes.l0 k x0 x1 (x5 ++ [120]) (wrap64 (x6 + 1))) else (none)) else (if (rd x0 x6) = 13 then (if x5.length < 35184372088832 then (portierelaw01_InputRunes.l0 k x0 x1 (x5 ++ [120]) (wrap64 (x6 + 1))) else (none)) else (if (rd x0 x6) = 65279 then (if x5.length < 35184372088832 then (portierelaw01_InputRunes.l0 k x0 x1 (x5 ++ [120]) (wrap64 (x6 + 1))) else (none)) else (if x5.length < 35184372088832 then (portierelaw01_InputRunes.l0 k x0 x1 (x5 ++ [rd x0 x6]) (wrap64 (x6 + 1))) else (none))))) else (if (rd x0 x6) = 13 then (if x5.length < 35184372088832 then (portierelaw01_InputRunes.l0 k x0 x1 (x5 ++ [120]) (wrap64 (x6 + 1))) else (none)) else (if (rd x0 x6) = 65279 then (if x5.length < 35184372088832 then (portierelaw01_InputRunes.l0 k x0 x1 (x5 ++ [120]) (wrap64 (x6 + 1))) else (none)) else (if x5.length < 35184372088832 then (portierelaw01_InputRunes.l0 k x0 x1 (x5 ++ [rd x0 x6]) (wrap64 (x6 + 1))) else (none))))))) else (none)) else ((input_DecodeS.f (runesBytes x5)).bind fun t173 => (if t173.toList = (runesBytes x5).toList then (if x1 = true then (if (x5.length : Int) = 0 then (some true) else (if 0 ≤ (wrap64 ((x5.length : Int) - 1)) then (if (wrap64 ((x5.length : Int) - 1)) < (x5.length : Int) then (if (rd x5 (wrap64 ((x5.length : Int) - 1))) < 128 then (some true) else (if 0 ≤ (wrap64 (((runesBytes x5).size : Int) - 1)) then (if (wrap64 (((runesBytes x5).size : Int) - 1)) ≤ ((runesBytes x5).size : Int) then ((input_DecodeS.f ((runesBytes x5).extract 0 ((wrap64 (((runesBytes x5).size : Int) - 1)) : Int).toNat)).bind fun t175 => (if (wrap64 ((x5.length : Int) - 1)) ≤ (x5.length : Int) then ((some (x5.take ((wrap64 ((x5.length : Int) - 1)) : Int).toNat : List Int)).bind fun y176 => (if (runesBytes y176).size + 3 ≤ 9223372036854775807 then (some (t175.toList == ((runesBytes y176) ++ (⟨#[239, 191, 189]⟩ : ByteArray)).toList)) else (none))) else (none))) else (none)) else (none))) else (none)) else (none))) else (some true)) else (some false)))
end
def portierelaw01_InputRunes.f (k : Nat) (l0 : List Int) (a1 : Bool) : Option (Bool) := if (l0.length : Int) > 500 then (portierelaw01_InputRunes.j0 k l0 a1 true) else ((portierelaw01_known.f).bind fun t143 => (portierelaw01_InputRunes.j0 k l0 a1 (!t143)))
theorem portierelaw01_InputRunes.mono_l : ∀ k, (∀ y0 y1 y2, LeO (portierelaw01_InputRunes.j0 k y0 y1 y2) (portierelaw01_InputRunes.j0 (k + 1) y0 y1 y2)) ∧ (∀ y0 y1 y2 y3, LeO (portierelaw01_InputRunes.l0 k y0 y1 y2 y3) (portierelaw01_InputRunes.l0 (k + 1) y0 y1 y2 y3))
  | 0 => ⟨fun _ _ _ r h => by simp [portierelaw01_InputRunes.j0] at h, fun _ _ _ _ r h => by simp [portierelaw01_InputRunes.l0] at h⟩
  | k + 1 => by
    obtain ⟨ih0, ih1⟩ := portierelaw01_InputRunes.mono_l k
    refine ⟨?_, ?_⟩
    · intro y0 y1 y2
      unfold portierelaw01_InputRunes.j0
      repeat' first
      | (with_reducible exact ih0 _ _ _)
      | (with_reducible exact ih1 _ _ _ _)
      | (with_reducible exact LeO.refl _)
      | (with_reducible exact LeO.none _)
      | (with_reducible refine LeO.ite ?_ ?_)
      | (with_reducible refine LeO.bind ?_ (fun _ => ?_))
      | exact ih0 _ _ _
      | exact ih1 _ _ _ _
      | exact LeO.none _
      | refine LeO.ite ?_ ?_
      | refine LeO.bind ?_ (fun _ => ?_)
    · intro y0 y1 y2 y3
      unfold portierelaw01_InputRunes.l0
      repeat' first
      | (with_reducible exact ih0 _ _ _)
      | (with_reducible exact ih1 _ _ _ _)
      | (with_reducible exact LeO.refl _)
      | (with_reducible exact LeO.none _)
      | (with_reducible refine LeO.ite ?_ ?_)
      | (with_reducible refine LeO.bind ?_ (fun _ => ?_))
      | exact ih0 _ _ _
      | exact ih1 _ _ _ _
      | exact LeO.none _
      | refine LeO.ite ?_ ?_
      | refine LeO.bind ?_ (fun _ => ?_)
theorem portierelaw01_InputRunes.mono : ∀ a0 a1 k, LeO (portierelaw01_InputRunes.f k a0 a1) (portierelaw01_InputRunes.f (k + 1) a0 a1) := by
  intro a0 a1 k
  obtain ⟨ih0, ih1⟩ := portierelaw01_InputRunes.mono_l k
  unfold portierelaw01_InputRunes.f
  repeat' first
      | (with_reducible exact ih0 _ _ _)
      | (with_reducible exact ih1 _ _ _ _)
      | (with_reducible exact LeO.refl _)
      | (with_reducible exact LeO.none _)
      | (with_reducible refine LeO.ite ?_ ?_)
      | (with_reducible refine LeO.bind ?_ (fun _ => ?_))
      | exact ih0 _ _ _
      | exact ih1 _ _ _ _
      | exact LeO.none _
      | refine LeO.ite ?_ ?_
      | refine LeO.bind ?_ (fun _ => ?_)
def portierelaw01_InputRunes.T16 : Bool × List (List Nat × List Nat) := (true, [([], []), ([], []), ([1], [1]), ([2], [2]), ([0, 3], [0, 3]), ([4], [4]), ([5], [5]), ([], []), ([], []), ([8], [8]), ([9], [9]), ([7, 10], [7, 10]), ([11], [11]), ([12], [12]), ([6, 13], [6, 13]), ([14, 6, 0, 1, 2, 3, 4, 5, 6, 7, 8, 9, 10, 11, 12, 13, 14], [14])])
def portierelaw01_InputRunes.B16 : List Nat := [0, 0, 2, 6, 15, 31, 63, 0, 0, 256, 768, 1920, 3968, 8064, 16383, 32767]
theorem portierelaw01_InputRunes.tab16 : rtab .any (opsOf Tryd.f8 16) = portierelaw01_InputRunes.T16 := by kernel_rfl
theorem portierelaw01_InputRunes.bits16 : waitsOk portierelaw01_InputRunes.T16.2 portierelaw01_InputRunes.B16 = true := by kernel_rfl
set_option maxHeartbeats 8000000 in
set_option maxRecDepth 100000 in
theorem portierelaw01_InputRunes.calls (k : Nat) (A0 : Option Addr) (c0 : Nat) (l0 : List Int) (a1 : Bool) (r : Bool) (w : World) (hL : LaidW w) (hr0 : Kd.C (Kd.int .i32) w A0 l0.length l0) (hc0 : l0.length ≤ c0) (h : portierelaw01_InputRunes.f k l0 a1 = some r) :
    Calls Tryd.prog 8 #[.slice A0 l0.length c0, .bool a1] w fun e w' => e = .returned (.bool r) ∧ Below w.heap.size w w' := by
  have HR0 := Aside0.mk hr0
  have HC0 := Aside0.mk hc0
  clear hr0 hc0
  have HB := Aside0.mk (Below.refl w.heap.size w)
  have H : (if (l0.length : Int) > 500 then (portierelaw01_InputRunes.j0 k l0 a1 true) else ((portierelaw01_known.f).bind fun t143 => (portierelaw01_InputRunes.j0 k l0 a1 (!t143)))) = some r := h
  clear h
  have HC3 := Aside0.mk H
  clear H
  go_enter Tryd.func8, Tryd.ntmps8
  go_upto_region 1 with (fail)
  go_cut [15] (fun v15 wc => ∃ (kq : Nat) (x15_2 : Bool), v15 = .bool x15_2 ∧ Aside0 (portierelaw01_InputRunes.j0 kq l0 a1 x15_2 = some r) ∧ Aside0 (kq ≤ k) ∧ Aside0 (Below w.heap.size w wc))
  case first =>
    have H := HC3.out
    clear HC3
    by_cases c4 : (l0.length : Int) > 500
    · rw [if_pos c4] at H
      have c4b0 : decide (500 < (l0.length : Int)) = true := decide_eq_true c4
      have c4b1 : decide (500 < l0.length) = true := decide_eq_true (by omega)
      clear c4
      (first | rw [c4b0] | (simp only [i64_w, i32_w]; rw [c4b0]) | skip)
      have H' := Aside0.mk H
      clear H
      go_wp2
      go_meet
      case rel => exact ⟨_, (true), (by first | rfl | (simp; done) | (simp [*]; done)), H', ⟨by first | omega | exact Nat.le_refl _⟩, ⟨by repeat (first | (with_reducible first | exact HB.out | apply below_alloc | apply pw_below_drewN | apply below_drew1) | exact HB.out)⟩⟩
    · rw [if_neg c4] at H
      have c4b0 : decide (500 < (l0.length : Int)) = false := decide_eq_false c4
      have c4b1 : decide (500 < l0.length) = false := decide_eq_false (by omega)
      clear c4
      (first | rw [c4b0] | (simp only [i64_w, i32_w]; rw [c4b0]) | skip)
      replace H := Option.bind_eq_some_iff.mp H
      obtain ⟨t143, A50, H⟩ := H
      replace H : (portierelaw01_InputRunes.j0 k l0 a1 (!t143)) = some r := H
      have A5 := Aside0.mk A50
      clear A50
      have H' := Aside0.mk H
      clear H
      go_wp2_with (first | (go_at_call 10; (with_reducible refine (portierelaw01_known.calls t143 _ (hL.below (by repeat (first | (with_reducible first | exact HB.out | apply below_alloc | apply pw_below_drewN | apply below_drew1) | exact HB.out)) hL.size) A5.out).mono ?_); rintro e w6 ⟨rfl, hb⟩; have n0_ := Aside0.mk (below_step (by repeat (first | (with_reducible first | exact HB.out | apply below_alloc | apply pw_below_drewN | apply below_drew1) | exact HB.out)) hb); clear HB; have HB := n0_; clear n0_; (try clear hb); (try clear hb2); (try clear hk); (try clear hi)))
      go_meet
      case rel => exact ⟨_, (!t143), (by first | rfl | (simp; done) | (simp [*]; done)), H', ⟨by first | omega | exact Nat.le_refl _⟩, ⟨by repeat (first | (with_reducible first | exact HB.out | apply below_alloc | apply pw_below_drewN | apply below_drew1) | exact HB.out)⟩⟩
  case rest =>
    clear HC3
    try clear p2
    try clear c4
    try clear c4b0
    try clear c4b1
    obtain ⟨kq, x15_2, rfl, HA, HJ2, HB⟩ := hcut
    cases kq with
    | zero => exact absurd HA.out (by simp [portierelaw01_InputRunes.j0])
    | succ kj2 =>
      have H := HA.out
      clear HA
      simp only [portierelaw01_InputRunes.j0] at H
      by_cases c7 : x15_2 = true
      · subst c7
        have H1 : ((portierelaw01_known.f).bind fun t144 => (some t144)) = some r := by rw [if_pos rfl] at H; exact H
        clear H
        have H := H1
        clear H1
        replace H := Option.bind_eq_some_iff.mp H
        obtain ⟨t144, A80, H⟩ := H
        replace H : (some t144) = some r := H
        have A8 := Aside0.mk A80
        clear A80
        obtain rfl := Option.some.inj H
        go_wp2_with (first | ((with_reducible refine gate_callee (f := 10) rfl ?_); refine goesL_ (some 16) rfl rfl Tryd.func10 (by kernel_rfl) rfl #[] rfl (by (try simp only [List.map_toArray, List.map_cons, List.map_nil]); first | done | rfl | (simp only [List.length_drop, List.length_take]; rfl)) ?_; (with_reducible refine (portierelaw01_known.calls t144 _ (hL.below (by repeat (first | (with_reducible first | exact HB.out | apply below_alloc | apply pw_below_drewN | apply below_drew1) | exact HB.out)) hL.size) A8.out).mono ?_); rintro e w9 ⟨rfl, hb⟩; refine ⟨_, rfl, ?_⟩; have n0_ := Aside0.mk (below_step (by repeat (first | (with_reducible first | exact HB.out | apply below_alloc | apply pw_below_drewN | apply below_drew1) | exact HB.out)) hb); clear HB; have HB := n0_; clear n0_; (try clear hb); (try clear hb2); (try clear hk); (try clear hi)))
        go_ret
        exact ⟨by first | rfl | (simp [errW_none, errW_some] <;> rfl) | (simp [*, errW_none, errW_some] <;> rfl), by repeat (first | (with_reducible first | exact HB.out | apply below_alloc | apply pw_below_drewN | apply below_drew1) | exact HB.out)⟩
      · replace c7 := Bool.eq_false_iff.mpr c7
        subst c7
        have H1 : (portierelaw01_InputRunes.l0 kj2 l0 a1 ([] : List Int) 0) = some r := by rw [if_neg (show ¬ (false = true) by decide)] at H; exact H
        clear H
        have H := H1
        clear H1
        have H' := Aside0.mk H
        clear H
        go_wp2
        go_loopg [5, 6] kj2 (fun kq v5 v6 w' => ∃ (x5_2 : List Int) (x6_2 : Int), v6 = .int .i64 x6_2 ∧ Aside0 (portierelaw01_InputRunes.l0 kq l0 a1 x5_2 x6_2 = some r) ∧ Aside0 (kq ≤ kj2) ∧ Aside0 (Kd.R (Kd.int .i32) 21 w' w.heap.size (fun _ => True) v5 x5_2) ∧ Aside0 (Below w.heap.size w w'))
        case atStart => exact ⟨(([] : List Int)), (0), (by first | rfl | (simp; done) | (simp [*]; done)), H', ⟨Nat.le_refl _⟩, ⟨by first | exact Kd.R_nil _ _ _ _ _ | exact Kd.N_nil _ _ _ _ _ | exact Kd.V_nil _ _ _ _ _ | exact Kd.Q_nil _ _ _ _ _ | exact Kd.S_nil _ _ _ _ _⟩, ⟨by repeat (first | (with_reducible first | exact HB.out | apply below_alloc | apply pw_below_drewN | apply below_drew1) | exact HB.out)⟩⟩
        case round =>
          clear H'
          try clear c1
          try clear p2
          try clear c4
          try clear c4b0
          try clear c4b1
          try clear c7
          try clear c8
          try clear p2
          obtain ⟨x5_2, x6_2, rfl, HA, HK2, HO_5, HB⟩ := hrel
          cases gk with
          | zero => exact absurd HA.out (by simp [portierelaw01_InputRunes.l0])
          | succ k2 =>
            have H := HA.out
            clear HA
            simp only [portierelaw01_InputRunes.l0] at H
            by_cases c10 : x6_2 < (l0.length : Int)
            · rw [if_pos c10] at H
              have c10b0 : decide (x6_2 < (l0.length : Int)) = true := decide_eq_true c10
              clear c10
              by_cases c11 : 0 ≤ x6_2
              · rw [if_pos c11] at H
                have c11b0 : decide (0 ≤ x6_2) = true := decide_eq_true c11
                clear c11
                by_cases c12 : (rd l0 x6_2) < 0
                · rw [if_pos c12] at H
                  have c12b0 : decide ((rd l0 x6_2) < 0) = true := decide_eq_true c12
                  clear c12
                  by_cases c13 : x5_2.length < 35184372088832
                  · rw [if_pos c13] at H
                    have LMc13 := Aside0.mk c13
                    clear c13
                    obtain ⟨y146, hy146⟩ : ∃ y_ : List Int, y_ = (x5_2 ++ [120]) := ⟨_, rfl⟩
                    replace H : (portierelaw01_InputRunes.l0 k2 l0 a1 y146 (wrap64 (x6_2 + 1))) = some r := by first | (rw [hy146]; with_reducible exact H) | (have H2_ := (Option.bind_some _ _).symm.trans H; rw [hy146]; with_reducible exact H2_) | (have H2_ := (Option.bind_some _ _).symm.trans H; with_reducible exact H2_) | with_reducible exact H | (rw [hy146]; exact H) | exact H
                    have Ny146 := Aside0.mk hy146
                    clear hy146
                    have H' := Aside0.mk H
                    clear H
                    have p145 : 0 ≤ (x6_2 : Int) := of_decide_eq_true (by first | (with_reducible assumption) | assumption)
                    have q145 : x6_2 < (l0.length : Int) := of_decide_eq_true (by first | (with_reducible assumption) | assumption)
                    obtain ⟨ad145, e145, hx145_0⟩ := Kd.at_int HR0.out x6_2 p145 q145
                    cases e145
                    replace hx145_0 := (HB.out.cell (World.block_lt_of_cell? w _ hx145_0)).trans hx145_0
                    replace p145 := eq_true p145
                    replace q145 := eq_true q145
                    go_wp2_with (first | ((with_reducible refine gate_builtin (b := .append) (xs := #[.tmp 49, .tmp 51]) rfl ?_); (try (refine gate_guard (by rfl) ?_; dsimp only)); at_builtin; refine Kd.R_append (Kd.int .i32) (w0 := w) w.heap.size rfl (.tmp 49) (.tmp 51) 34 21 (.int .i32 0) 4 rfl Tryd.underlying34 info21 rfl (by decide) (by omega) u5 x5_2 120 [.int .i32 120] (fun _ => True) (fun _ => False) rfl rfl ?aP (fun _ hk => hk.elim) ?aF ?aO ?aB ?aS ?aL ?_; (case aP => exact rfl); (case aB => exact (by repeat (first | (with_reducible first | exact HB.out | apply below_alloc | apply pw_below_drewN | apply below_drew1) | exact HB.out))); (case aF => exact (fun _ _ => trivial)); (case aO => exact (by (with_reducible repeat (first | apply Kd.R_alloc | apply Kd.R_drewN | apply Kd.R_drew)); exact HO_5.out)); (case aS => exact (below_size (by repeat (first | (with_reducible first | exact HB.out | apply below_alloc | apply pw_below_drewN | apply below_drew1) | exact HB.out)))); (case aL => have := LMc13.out; omega); intro v147 w14 ho hb hg hat; rw [← Ny146.out] at ho; have n0_ := Aside0.mk (hb); have n1_ := Aside0.mk (ho); clear HB; clear HO_5; have HB := n0_; have HO148 := n1_; clear n0_ n1_; clear ho hb hg hat))
                    go_roundg k2
                    case measure => have := HJ2.out; have := HK2.out; omega
                    case rel => exact ⟨(y146), (wrap64 (x6_2 + 1)), (by first | rfl | (simp; done) | (simp [*]; done)), H', ⟨by have := HJ2.out; have := HK2.out; omega⟩, ⟨by (with_reducible repeat (first | apply Kd.R_alloc | apply Kd.R_drewN | apply Kd.R_drew)); exact HO148.out⟩, ⟨by repeat (first | (with_reducible first | exact HB.out | apply below_alloc | apply pw_below_drewN | apply below_drew1) | exact HB.out)⟩⟩
                  · rw [if_neg c13] at H
                    exact absurd H (by simp)
                · rw [if_neg c12] at H
                  have c12b0 : decide ((rd l0 x6_2) < 0) = false := decide_eq_false c12
                  clear c12
                  by_cases c15 : (rd l0 x6_2) > 1114111
                  · rw [if_pos c15] at H
                    have c15b0 : decide (1114111 < (rd l0 x6_2)) = true := decide_eq_true c15
                    clear c15
                    by_cases c16 : x5_2.length < 35184372088832
                    · rw [if_pos c16] at H
                      have LMc16 := Aside0.mk c16
                      clear c16
                      obtain ⟨y149, hy149⟩ : ∃ y_ : List Int, y_ = (x5_2 ++ [120]) := ⟨_, rfl⟩
                      replace H : (portierelaw01_InputRunes.l0 k2 l0 a1 y149 (wrap64 (x6_2 + 1))) = some r := by first | (rw [hy149]; with_reducible exact H) | (have H2_ := (Option.bind_some _ _).symm.trans H; rw [hy149]; with_reducible exact H2_) | (have H2_ := (Option.bind_some _ _).symm.trans H; with_reducible exact H2_) | with_reducible exact H | (rw [hy149]; exact H) | exact H
                      have Ny149 := Aside0.mk hy149
                      clear hy149
                      have H' := Aside0.mk H
                      clear H
                      have p145 : 0 ≤ (x6_2 : Int) := of_decide_eq_true (by first | (with_reducible assumption) | assumption)
                      have q145 : x6_2 < (l0.length : Int) := of_decide_eq_true (by first | (with_reducible assumption) | assumption)
                      obtain ⟨ad145, e145, hx145_0⟩ := Kd.at_int HR0.out x6_2 p145 q145
                      cases e145
                      replace hx145_0 := (HB.out.cell (World.block_lt_of_cell? w _ hx145_0)).trans hx145_0
                      replace p145 := eq_true p145
                      replace q145 := eq_true q145
                      go_wp2_with (first | ((with_reducible refine gate_builtin (b := .append) (xs := #[.tmp 49, .tmp 51]) rfl ?_); (try (refine gate_guard (by rfl) ?_; dsimp only)); at_builtin; refine Kd.R_append (Kd.int .i32) (w0 := w) w.heap.size rfl (.tmp 49) (.tmp 51) 34 21 (.int .i32 0) 4 rfl Tryd.underlying34 info21 rfl (by decide) (by omega) u5 x5_2 120 [.int .i32 120] (fun _ => True) (fun _ => False) rfl rfl ?aP (fun _ hk => hk.elim) ?aF ?aO ?aB ?aS ?aL ?_; (case aP => exact rfl); (case aB => exact (by repeat (first | (with_reducible first | exact HB.out | apply below_alloc | apply pw_below_drewN | apply below_drew1) | exact HB.out))); (case aF => exact (fun _ _ => trivial)); (case aO => exact (by (with_reducible repeat (first | apply Kd.R_alloc | apply Kd.R_drewN | apply Kd.R_drew)); exact HO_5.out)); (case aS => exact (below_size (by repeat (first | (with_reducible first | exact HB.out | apply below_alloc | apply pw_below_drewN | apply below_drew1) | exact HB.out)))); (case aL => have := LMc16.out; omega); intro v150 w17 ho hb hg hat; rw [← Ny149.out] at ho; have n0_ := Aside0.mk (hb); have n1_ := Aside0.mk (ho); clear HB; clear HO_5; have HB := n0_; have HO151 := n1_; clear n0_ n1_; clear ho hb hg hat))
                      go_roundg k2
                      case measure => have := HJ2.out; have := HK2.out; omega
                      case rel => exact ⟨(y149), (wrap64 (x6_2 + 1)), (by first | rfl | (simp; done) | (simp [*]; done)), H', ⟨by have := HJ2.out; have := HK2.out; omega⟩, ⟨by (with_reducible repeat (first | apply Kd.R_alloc | apply Kd.R_drewN | apply Kd.R_drew)); exact HO151.out⟩, ⟨by repeat (first | (with_reducible first | exact HB.out | apply below_alloc | apply pw_below_drewN | apply below_drew1) | exact HB.out)⟩⟩
                    · rw [if_neg c16] at H
                      exact absurd H (by simp)
                  · rw [if_neg c15] at H
                    have c15b0 : decide (1114111 < (rd l0 x6_2)) = false := decide_eq_false c15
                    clear c15
                    by_cases c18 : (rd l0 x6_2) ≥ 55296
                    · rw [if_pos c18] at H
                      have c18b0 : decide (55296 ≤ (rd l0 x6_2)) = true := decide_eq_true c18
                      clear c18
                      by_cases c19 : (rd l0 x6_2) ≤ 57343
                      · rw [if_pos c19] at H
                        have c19b0 : decide ((rd l0 x6_2) ≤ 57343) = true := decide_eq_true c19
                        clear c19
                        by_cases c20 : x5_2.length < 35184372088832
                        · rw [if_pos c20] at H
                          have LMc20 := Aside0.mk c20
                          clear c20
                          obtain ⟨y152, hy152⟩ : ∃ y_ : List Int, y_ = (x5_2 ++ [120]) := ⟨_, rfl⟩
                          replace H : (portierelaw01_InputRunes.l0 k2 l0 a1 y152 (wrap64 (x6_2 + 1))) = some r := by first | (rw [hy152]; with_reducible exact H) | (have H2_ := (Option.bind_some _ _).symm.trans H; rw [hy152]; with_reducible exact H2_) | (have H2_ := (Option.bind_some _ _).symm.trans H; with_reducible exact H2_) | with_reducible exact H | (rw [hy152]; exact H) | exact H
                          have Ny152 := Aside0.mk hy152
                          clear hy152
                          have H' := Aside0.mk H
                          clear H
                          have p145 : 0 ≤ (x6_2 : Int) := of_decide_eq_true (by first | (with_reducible assumption) | assumption)
                          have q145 : x6_2 < (l0.length : Int) := of_decide_eq_true (by first | (with_reducible assumption) | assumption)
                          obtain ⟨ad145, e145, hx145_0⟩ := Kd.at_int HR0.out x6_2 p145 q145
                          cases e145
                          replace hx145_0 := (HB.out.cell (World.block_lt_of_cell? w _ hx145_0)).trans hx145_0
                          replace p145 := eq_true p145
                          replace q145 := eq_true q145
                          go_wp2_with (first | ((with_reducible refine gate_builtin (b := .append) (xs := #[.tmp 49, .tmp 51]) rfl ?_); (try (refine gate_guard (by rfl) ?_; dsimp only)); at_builtin; refine Kd.R_append (Kd.int .i32) (w0 := w) w.heap.size rfl (.tmp 49) (.tmp 51) 34 21 (.int .i32 0) 4 rfl Tryd.underlying34 info21 rfl (by decide) (by omega) u5 x5_2 120 [.int .i32 120] (fun _ => True) (fun _ => False) rfl rfl ?aP (fun _ hk => hk.elim) ?aF ?aO ?aB ?aS ?aL ?_; (case aP => exact rfl); (case aB => exact (by repeat (first | (with_reducible first | exact HB.out | apply below_alloc | apply pw_below_drewN | apply below_drew1) | exact HB.out))); (case aF => exact (fun _ _ => trivial)); (case aO => exact (by (with_reducible repeat (first | apply Kd.R_alloc | apply Kd.R_drewN | apply Kd.R_drew)); exact HO_5.out)); (case aS => exact (below_size (by repeat (first | (with_reducible first | exact HB.out | apply below_alloc | apply pw_below_drewN | apply below_drew1) | exact HB.out)))); (case aL => have := LMc20.out; omega); intro v153 w21 ho hb hg hat; rw [← Ny152.out] at ho; have n0_ := Aside0.mk (hb); have n1_ := Aside0.mk (ho); clear HB; clear HO_5; have HB := n0_; have HO154 := n1_; clear n0_ n1_; clear ho hb hg hat))
                          go_roundg k2
                          case measure => have := HJ2.out; have := HK2.out; omega
                          case rel => exact ⟨(y152), (wrap64 (x6_2 + 1)), (by first | rfl | (simp; done) | (simp [*]; done)), H', ⟨by have := HJ2.out; have := HK2.out; omega⟩, ⟨by (with_reducible repeat (first | apply Kd.R_alloc | apply Kd.R_drewN | apply Kd.R_drew)); exact HO154.out⟩, ⟨by repeat (first | (with_reducible first | exact HB.out | apply below_alloc | apply pw_below_drewN | apply below_drew1) | exact HB.out)⟩⟩
                        · rw [if_neg c20] at H
                          exact absurd H (by simp)
                      · rw [if_neg c19] at H
                        have c19b0 : decide ((rd l0 x6_2) ≤ 57343) = false := decide_eq_false c19
                        clear c19
                        by_cases c22 : (rd l0 x6_2) = 13
                        · rw [if_pos c22] at H
                          have c22b0 : ((rd l0 x6_2) == 13) = true := beq_iff_eq.mpr c22
                          have c22b1 : ((rd l0 x6_2) != 13) = false := bne_eq_false_iff_eq.mpr c22
                          clear c22
                          by_cases c23 : x5_2.length < 35184372088832
                          · rw [if_pos c23] at H
                            have LMc23 := Aside0.mk c23
                            clear c23
                            obtain ⟨y155, hy155⟩ : ∃ y_ : List Int, y_ = (x5_2 ++ [120]) := ⟨_, rfl⟩
                            replace H : (portierelaw01_InputRunes.l0 k2 l0 a1 y155 (wrap64 (x6_2 + 1))) = some r := by first | (rw [hy155]; with_reducible exact H) | (have H2_ := (Option.bind_some _ _).symm.trans H; rw [hy155]; with_reducible exact H2_) | (have H2_ := (Option.bind_some _ _).symm.trans H; with_reducible exact H2_) | with_reducible exact H | (rw [hy155]; exact H) | exact H
                            have Ny155 := Aside0.mk hy155
                            clear hy155
                            have H' := Aside0.mk H
                            clear H
                            have p145 : 0 ≤ (x6_2 : Int) := of_decide_eq_true (by first | (with_reducible assumption) | assumption)
                            have q145 : x6_2 < (l0.length : Int) := of_decide_eq_true (by first | (with_reducible assumption) | assumption)
                            obtain ⟨ad145, e145, hx145_0⟩ := Kd.at_int HR0.out x6_2 p145 q145
                            cases e145
                            replace hx145_0 := (HB.out.cell (World.block_lt_of_cell? w _ hx145_0)).trans hx145_0
                            replace p145 := eq_true p145
                            replace q145 := eq_true q145
                            go_wp2_with (first | ((with_reducible refine gate_builtin (b := .append) (xs := #[.tmp 49, .tmp 51]) rfl ?_); (try (refine gate_guard (by rfl) ?_; dsimp only)); at_builtin; refine Kd.R_append (Kd.int .i32) (w0 := w) w.heap.size rfl (.tmp 49) (.tmp 51) 34 21 (.int .i32 0) 4 rfl Tryd.underlying34 info21 rfl (by decide) (by omega) u5 x5_2 120 [.int .i32 120] (fun _ => True) (fun _ => False) rfl rfl ?aP (fun _ hk => hk.elim) ?aF ?aO ?aB ?aS ?aL ?_; (case aP => exact rfl); (case aB => exact (by repeat (first | (with_reducible first | exact HB.out | apply below_alloc | apply pw_below_drewN | apply below_drew1) | exact HB.out))); (case aF => exact (fun _ _ => trivial)); (case aO => exact (by (with_reducible repeat (first | apply Kd.R_alloc | apply Kd.R_drewN | apply Kd.R_drew)); exact HO_5.out)); (case aS => exact (below_size (by repeat (first | (with_reducible first | exact HB.out | apply below_alloc | apply pw_below_drewN | apply below_drew1) | exact HB.out)))); (case aL => have := LMc23.out; omega); intro v156 w24 ho hb hg hat; rw [← Ny155.out] at ho; have n0_ := Aside0.mk (hb); have n1_ := Aside0.mk (ho); clear HB; clear HO_5; have HB := n0_; have HO157 := n1_; clear n0_ n1_; clear ho hb hg hat))
                            go_roundg k2
                            case measure => have := HJ2.out; have := HK2.out; omega
                            case rel => exact ⟨(y155), (wrap64 (x6_2 + 1)), (by first | rfl | (simp; done) | (simp [*]; done)), H', ⟨by have := HJ2.out; have := HK2.out; omega⟩, ⟨by (with_reducible repeat (first | apply Kd.R_alloc | apply Kd.R_drewN | apply Kd.R_drew)); exact HO157.out⟩, ⟨by repeat (first | (with_reducible first | exact HB.out | apply below_alloc | apply pw_below_drewN | apply below_drew1) | exact HB.out)⟩⟩
                          · rw [if_neg c23] at H
                            exact absurd H (by simp)
                        · rw [if_neg c22] at H
                          have c22b0 : ((rd l0 x6_2) == 13) = false := beq_eq_false_iff_ne.mpr c22
                          have c22b1 : ((rd l0 x6_2) != 13) = true := bne_iff_ne.mpr c22
                          by_cases c25 : (rd l0 x6_2) = 65279
                          · rw [if_pos c25] at H
                            have c25b0 : ((rd l0 x6_2) == 65279) = true := beq_iff_eq.mpr c25
                            have c25b1 : ((rd l0 x6_2) != 65279) = false := bne_eq_false_iff_eq.mpr c25
                            clear c25
                            by_cases c26 : x5_2.length < 35184372088832
                            · rw [if_pos c26] at H
                              have LMc26 := Aside0.mk c26
                              clear c26
                              obtain ⟨y158, hy158⟩ : ∃ y_ : List Int, y_ = (x5_2 ++ [120]) := ⟨_, rfl⟩
                              replace H : (portierelaw01_InputRunes.l0 k2 l0 a1 y158 (wrap64 (x6_2 + 1))) = some r := by first | (rw [hy158]; with_reducible exact H) | (have H2_ := (Option.bind_some _ _).symm.trans H; rw [hy158]; with_reducible exact H2_) | (have H2_ := (Option.bind_some _ _).symm.trans H; with_reducible exact H2_) | with_reducible exact H | (rw [hy158]; exact H) | exact H
                              have Ny158 := Aside0.mk hy158
                              clear hy158
                              have H' := Aside0.mk H
                              clear H
                              have p145 : 0 ≤ (x6_2 : Int) := of_decide_eq_true (by first | (with_reducible assumption) | assumption)
                              have q145 : x6_2 < (l0.length : Int) := of_decide_eq_true (by first | (with_reducible assumption) | assumption)
                              obtain ⟨ad145, e145, hx145_0⟩ := Kd.at_int HR0.out x6_2 p145 q145
                              cases e145
                              replace hx145_0 := (HB.out.cell (World.block_lt_of_cell? w _ hx145_0)).trans hx145_0
                              replace p145 := eq_true p145
                              replace q145 := eq_true q145
                              go_wp2_with (first | ((with_reducible refine gate_builtin (b := .append) (xs := #[.tmp 49, .tmp 51]) rfl ?_); (try (refine gate_guard (by rfl) ?_; dsimp only)); at_builtin; refine Kd.R_append (Kd.int .i32) (w0 := w) w.heap.size rfl (.tmp 49) (.tmp 51) 34 21 (.int .i32 0) 4 rfl Tryd.underlying34 info21 rfl (by decide) (by omega) u5 x5_2 120 [.int .i32 120] (fun _ => True) (fun _ => False) rfl rfl ?aP (fun _ hk => hk.elim) ?aF ?aO ?aB ?aS ?aL ?_; (case aP => exact rfl); (case aB => exact (by repeat (first | (with_reducible first | exact HB.out | apply below_alloc | apply pw_below_drewN | apply below_drew1) | exact HB.out))); (case aF => exact (fun _ _ => trivial)); (case aO => exact (by (with_reducible repeat (first | apply Kd.R_alloc | apply Kd.R_drewN | apply Kd.R_drew)); exact HO_5.out)); (case aS => exact (below_size (by repeat (first | (with_reducible first | exact HB.out | apply below_alloc | apply pw_below_drewN | apply below_drew1) | exact HB.out)))); (case aL => have := LMc26.out; omega); intro v159 w27 ho hb hg hat; rw [← Ny158.out] at ho; have n0_ := Aside0.mk (hb); have n1_ := Aside0.mk (ho); clear HB; clear HO_5; have HB := n0_; have HO160 := n1_; clear n0_ n1_; clear ho hb hg hat))
                              go_roundg k2
                              case measure => have := HJ2.out; have := HK2.out; omega
                              case rel => exact ⟨(y158), (wrap64 (x6_2 + 1)), (by first | rfl | (simp; done) | (simp [*]; done)), H', ⟨by have := HJ2.out; have := HK2.out; omega⟩, ⟨by (with_reducible repeat (first | apply Kd.R_alloc | apply Kd.R_drewN | apply Kd.R_drew)); exact HO160.out⟩, ⟨by repeat (first | (with_reducible first | exact HB.out | apply below_alloc | apply pw_below_drewN | apply below_drew1) | exact HB.out)⟩⟩
                            · rw [if_neg c26] at H
                              exact absurd H (by simp)
                          · rw [if_neg c25] at H
                            have c25b0 : ((rd l0 x6_2) == 65279) = false := beq_eq_false_iff_ne.mpr c25
                            have c25b1 : ((rd l0 x6_2) != 65279) = true := bne_iff_ne.mpr c25
                            by_cases c28 : x5_2.length < 35184372088832
                            · rw [if_pos c28] at H
                              have LMc28 := Aside0.mk c28
                              clear c28
                              obtain ⟨y161, hy161⟩ : ∃ y_ : List Int, y_ = (x5_2 ++ [rd l0 x6_2]) := ⟨_, rfl⟩
                              replace H : (portierelaw01_InputRunes.l0 k2 l0 a1 y161 (wrap64 (x6_2 + 1))) = some r := by first | (rw [hy161]; with_reducible exact H) | (have H2_ := (Option.bind_some _ _).symm.trans H; rw [hy161]; with_reducible exact H2_) | (have H2_ := (Option.bind_some _ _).symm.trans H; with_reducible exact H2_) | with_reducible exact H | (rw [hy161]; exact H) | exact H
                              have Ny161 := Aside0.mk hy161
                              clear hy161
                              have H' := Aside0.mk H
                              clear H
                              have p145 : 0 ≤ (x6_2 : Int) := of_decide_eq_true (by first | (with_reducible assumption) | assumption)
                              have q145 : x6_2 < (l0.length : Int) := of_decide_eq_true (by first | (with_reducible assumption) | assumption)
                              obtain ⟨ad145, e145, hx145_0⟩ := Kd.at_int HR0.out x6_2 p145 q145
                              cases e145
                              replace hx145_0 := (HB.out.cell (World.block_lt_of_cell? w _ hx145_0)).trans hx145_0
                              replace p145 := eq_true p145
                              replace q145 := eq_true q145
                              go_wp2_with (first | ((with_reducible refine gate_builtin (b := .append) (xs := #[.tmp 49, .tmp 51]) rfl ?_); (try (refine gate_guard (by rfl) ?_; dsimp only)); at_builtin; refine Kd.R_append (Kd.int .i32) (w0 := w) w.heap.size rfl (.tmp 49) (.tmp 51) 34 21 (.int .i32 0) 4 rfl Tryd.underlying34 info21 rfl (by decide) (by omega) u5 x5_2 (rd l0 x6_2) [.int .i32 (rd l0 x6_2)] (fun _ => True) (fun _ => False) rfl rfl ?aP (fun _ hk => hk.elim) ?aF ?aO ?aB ?aS ?aL ?_; (case aP => exact rfl); (case aB => exact (by repeat (first | (with_reducible first | exact HB.out | apply below_alloc | apply pw_below_drewN | apply below_drew1) | exact HB.out))); (case aF => exact (fun _ _ => trivial)); (case aO => exact (by (with_reducible repeat (first | apply Kd.R_alloc | apply Kd.R_drewN | apply Kd.R_drew)); exact HO_5.out)); (case aS => exact (below_size (by repeat (first | (with_reducible first | exact HB.out | apply below_alloc | apply pw_below_drewN | apply below_drew1) | exact HB.out)))); (case aL => have := LMc28.out; omega); intro v162 w29 ho hb hg hat; rw [← Ny161.out] at ho; have n0_ := Aside0.mk (hb); have n1_ := Aside0.mk (ho); clear HB; clear HO_5; have HB := n0_; have HO163 := n1_; clear n0_ n1_; clear ho hb hg hat))
                              go_roundg k2
                              case measure => have := HJ2.out; have := HK2.out; omega
                              case rel => exact ⟨(y161), (wrap64 (x6_2 + 1)), (by first | rfl | (simp; done) | (simp [*]; done)), H', ⟨by have := HJ2.out; have := HK2.out; omega⟩, ⟨by (with_reducible repeat (first | apply Kd.R_alloc | apply Kd.R_drewN | apply Kd.R_drew)); exact HO163.out⟩, ⟨by repeat (first | (with_reducible first | exact HB.out | apply below_alloc | apply pw_below_drewN | apply below_drew1) | exact HB.out)⟩⟩
                            · rw [if_neg c28] at H
                              exact absurd H (by simp)
                    · rw [if_neg c18] at H
                      have c18b0 : decide (55296 ≤ (rd l0 x6_2)) = false := decide_eq_false c18
                      clear c18
                      by_cases c30 : (rd l0 x6_2) = 13
                      · rw [if_pos c30] at H
                        have c30b0 : ((rd l0 x6_2) == 13) = true := beq_iff_eq.mpr c30
                        have c30b1 : ((rd l0 x6_2) != 13) = false := bne_eq_false_iff_eq.mpr c30
                        clear c30
                        by_cases c31 : x5_2.length < 35184372088832
                        · rw [if_pos c31] at H
                          have LMc31 := Aside0.mk c31
                          clear c31
                          obtain ⟨y164, hy164⟩ : ∃ y_ : List Int, y_ = (x5_2 ++ [120]) := ⟨_, rfl⟩
                          replace H : (portierelaw01_InputRunes.l0 k2 l0 a1 y164 (wrap64 (x6_2 + 1))) = some r := by first | (rw [hy164]; with_reducible exact H) | (have H2_ := (Option.bind_some _ _).symm.trans H; rw [hy164]; with_reducible exact H2_) | (have H2_ := (Option.bind_some _ _).symm.trans H; with_reducible exact H2_) | with_reducible exact H | (rw [hy164]; exact H) | exact H
                          have Ny164 := Aside0.mk hy164
                          clear hy164
                          have H' := Aside0.mk H
                          clear H
                          have p145 : 0 ≤ (x6_2 : Int) := of_decide_eq_true (by first | (with_reducible assumption) | assumption)
                          have q145 : x6_2 < (l0.length : Int) := of_decide_eq_true (by first | (with_reducible assumption) | assumption)
                          obtain ⟨ad145, e145, hx145_0⟩ := Kd.at_int HR0.out x6_2 p145 q145
                          cases e145
                          replace hx145_0 := (HB.out.cell (World.block_lt_of_cell? w _ hx145_0)).trans hx145_0
                          replace p145 := eq_true p145
                          replace q145 := eq_true q145
                          go_wp2_with (first | ((with_reducible refine gate_builtin (b := .append) (xs := #[.tmp 49, .tmp 51]) rfl ?_); (try (refine gate_guard (by rfl) ?_; dsimp only)); at_builtin; refine Kd.R_append (Kd.int .i32) (w0 := w) w.heap.size rfl (.tmp 49) (.tmp 51) 34 21 (.int .i32 0) 4 rfl Tryd.underlying34 info21 rfl (by decide) (by omega) u5 x5_2 120 [.int .i32 120] (fun _ => True) (fun _ => False) rfl rfl ?aP (fun _ hk => hk.elim) ?aF ?aO ?aB ?aS ?aL ?_; (case aP => exact rfl); (case aB => exact (by repeat (first | (with_reducible first | exact HB.out | apply below_alloc | apply pw_below_drewN | apply below_drew1) | exact HB.out))); (case aF => exact (fun _ _ => trivial)); (case aO => exact (by (with_reducible repeat (first | apply Kd.R_alloc | apply Kd.R_drewN | apply Kd.R_drew)); exact HO_5.out)); (case aS => exact (below_size (by repeat (first | (with_reducible first | exact HB.out | apply below_alloc | apply pw_below_drewN | apply below_drew1) | exact HB.out)))); (case aL => have := LMc31.out; omega); intro v165 w32 ho hb hg hat; rw [← Ny164.out] at ho; have n0_ := Aside0.mk (hb); have n1_ := Aside0.mk (ho); clear HB; clear HO_5; have HB := n0_; have HO166 := n1_; clear n0_ n1_; clear ho hb hg hat))
                          go_roundg k2
                          case measure => have := HJ2.out; have := HK2.out; omega
                          case rel => exact ⟨(y164), (wrap64 (x6_2 + 1)), (by first | rfl | (simp; done) | (simp [*]; done)), H', ⟨by have := HJ2.out; have := HK2.out; omega⟩, ⟨by (with_reducible repeat (first | apply Kd.R_alloc | apply Kd.R_drewN | apply Kd.R_drew)); exact HO166.out⟩, ⟨by repeat (first | (with_reducible first | exact HB.out | apply below_alloc | apply pw_below_drewN | apply below_drew1) | exact HB.out)⟩⟩
                        · rw [if_neg c31] at H
                          exact absurd H (by simp)
                      · rw [if_neg c30] at H
                        have c30b0 : ((rd l0 x6_2) == 13) = false := beq_eq_false_iff_ne.mpr c30
                        have c30b1 : ((rd l0 x6_2) != 13) = true := bne_iff_ne.mpr c30
                        by_cases c33 : (rd l0 x6_2) = 65279
                        · rw [if_pos c33] at H
                          have c33b0 : ((rd l0 x6_2) == 65279) = true := beq_iff_eq.mpr c33
                          have c33b1 : ((rd l0 x6_2) != 65279) = false := bne_eq_false_iff_eq.mpr c33
                          clear c33
                          by_cases c34 : x5_2.length < 35184372088832
                          · rw [if_pos c34] at H
                            have LMc34 := Aside0.mk c34
                            clear c34
                            obtain ⟨y167, hy167⟩ : ∃ y_ : List Int, y_ = (x5_2 ++ [120]) := ⟨_, rfl⟩
                            replace H : (portierelaw01_InputRunes.l0 k2 l0 a1 y167 (wrap64 (x6_2 + 1))) = some r := by first | (rw [hy167]; with_reducible exact H) | (have H2_ := (Option.bind_some _ _).symm.trans H; rw [hy167]; with_reducible exact H2_) | (have H2_ := (Option.bind_some _ _).symm.trans H; with_reducible exact H2_) | with_reducible exact H | (rw [hy167]; exact H) | exact H
                            have Ny167 := Aside0.mk hy167
                            clear hy167
                            have H' := Aside0.mk H
                            clear H
                            have p145 : 0 ≤ (x6_2 : Int) := of_decide_eq_true (by first | (with_reducible assumption) | assumption)
                            have q145 : x6_2 < (l0.length : Int) := of_decide_eq_true (by first | (with_reducible assumption) | assumption)
                            obtain ⟨ad145, e145, hx145_0⟩ := Kd.at_int HR0.out x6_2 p145 q145
                            cases e145
                            replace hx145_0 := (HB.out.cell (World.block_lt_of_cell? w _ hx145_0)).trans hx145_0
                            replace p145 := eq_true p145
                            replace q145 := eq_true q145
                            go_wp2_with (first | ((with_reducible refine gate_builtin (b := .append) (xs := #[.tmp 49, .tmp 51]) rfl ?_); (try (refine gate_guard (by rfl) ?_; dsimp only)); at_builtin; refine Kd.R_append (Kd.int .i32) (w0 := w) w.heap.size rfl (.tmp 49) (.tmp 51) 34 21 (.int .i32 0) 4 rfl Tryd.underlying34 info21 rfl (by decide) (by omega) u5 x5_2 120 [.int .i32 120] (fun _ => True) (fun _ => False) rfl rfl ?aP (fun _ hk => hk.elim) ?aF ?aO ?aB ?aS ?aL ?_; (case aP => exact rfl); (case aB => exact (by repeat (first | (with_reducible first | exact HB.out | apply below_alloc | apply pw_below_drewN | apply below_drew1) | exact HB.out))); (case aF => exact (fun _ _ => trivial)); (case aO => exact (by (with_reducible repeat (first | apply Kd.R_alloc | apply Kd.R_drewN | apply Kd.R_drew)); exact HO_5.out)); (case aS => exact (below_size (by repeat (first | (with_reducible first | exact HB.out | apply below_alloc | apply pw_below_drewN | apply below_drew1) | exact HB.out)))); (case aL => have := LMc34.out; omega); intro v168 w35 ho hb hg hat; rw [← Ny167.out] at ho; have n0_ := Aside0.mk (hb); have n1_ := Aside0.mk (ho); clear HB; clear HO_5; have HB := n0_; have HO169 := n1_; clear n0_ n1_; clear ho hb hg hat))
                            go_roundg k2
                            case measure => have := HJ2.out; have := HK2.out; omega
                            case rel => exact ⟨(y167), (wrap64 (x6_2 + 1)), (by first | rfl | (simp; done) | (simp [*]; done)), H', ⟨by have := HJ2.out; have := HK2.out; omega⟩, ⟨by (with_reducible repeat (first | apply Kd.R_alloc | apply Kd.R_drewN | apply Kd.R_drew)); exact HO169.out⟩, ⟨by repeat (first | (with_reducible first | exact HB.out | apply below_alloc | apply pw_below_drewN | apply below_drew1) | exact HB.out)⟩⟩
                          · rw [if_neg c34] at H
                            exact absurd H (by simp)
                        · rw [if_neg c33] at H
                          have c33b0 : ((rd l0 x6_2) == 65279) = false := beq_eq_false_iff_ne.mpr c33
                          have c33b1 : ((rd l0 x6_2) != 65279) = true := bne_iff_ne.mpr c33
                          by_cases c36 : x5_2.length < 35184372088832
                          · rw [if_pos c36] at H
                            have LMc36 := Aside0.mk c36
                            clear c36
                            obtain ⟨y170, hy170⟩ : ∃ y_ : List Int, y_ = (x5_2 ++ [rd l0 x6_2]) := ⟨_, rfl⟩
                            replace H : (portierelaw01_InputRunes.l0 k2 l0 a1 y170 (wrap64 (x6_2 + 1))) = some r := by first | (rw [hy170]; with_reducible exact H) | (have H2_ := (Option.bind_some _ _).symm.trans H; rw [hy170]; with_reducible exact H2_) | (have H2_ := (Option.bind_some _ _).symm.trans H; with_reducible exact H2_) | with_reducible exact H | (rw [hy170]; exact H) | exact H
                            have Ny170 := Aside0.mk hy170
                            clear hy170
                            have H' := Aside0.mk H
                            clear H
                            have p145 : 0 ≤ (x6_2 : Int) := of_decide_eq_true (by first | (with_reducible assumption) | assumption)
                            have q145 : x6_2 < (l0.length : Int) := of_decide_eq_true (by first | (with_reducible assumption) | assumption)
                            obtain ⟨ad145, e145, hx145_0⟩ := Kd.at_int HR0.out x6_2 p145 q145
                            cases e145
                            replace hx145_0 := (HB.out.cell (World.block_lt_of_cell? w _ hx145_0)).trans hx145_0
                            replace p145 := eq_true p145
                            replace q145 := eq_true q145
                            go_wp2_with (first | ((with_reducible refine gate_builtin (b := .append) (xs := #[.tmp 49, .tmp 51]) rfl ?_); (try (refine gate_guard (by rfl) ?_; dsimp only)); at_builtin; refine Kd.R_append (Kd.int .i32) (w0 := w) w.heap.size rfl (.tmp 49) (.tmp 51) 34 21 (.int .i32 0) 4 rfl Tryd.underlying34 info21 rfl (by decide) (by omega) u5 x5_2 (rd l0 x6_2) [.int .i32 (rd l0 x6_2)] (fun _ => True) (fun _ => False) rfl rfl ?aP (fun _ hk => hk.elim) ?aF ?aO ?aB ?aS ?aL ?_; (case aP => exact rfl); (case aB => exact (by repeat (first | (with_reducible first | exact HB.out | apply below_alloc | apply pw_below_drewN | apply below_drew1) | exact HB.out))); (case aF => exact (fun _ _ => trivial)); (case aO => exact (by (with_reducible repeat (first | apply Kd.R_alloc | apply Kd.R_drewN | apply Kd.R_drew)); exact HO_5.out)); (case aS => exact (below_size (by repeat (first | (with_reducible first | exact HB.out | apply below_alloc | apply pw_below_drewN | apply below_drew1) | exact HB.out)))); (case aL => have := LMc36.out; omega); intro v171 w37 ho hb hg hat; rw [← Ny170.out] at ho; have n0_ := Aside0.mk (hb); have n1_ := Aside0.mk (ho); clear HB; clear HO_5; have HB := n0_; have HO172 := n1_; clear n0_ n1_; clear ho hb hg hat))
                            go_roundg k2
                            case measure => have := HJ2.out; have := HK2.out; omega
                            case rel => exact ⟨(y170), (wrap64 (x6_2 + 1)), (by first | rfl | (simp; done) | (simp [*]; done)), H', ⟨by have := HJ2.out; have := HK2.out; omega⟩, ⟨by (with_reducible repeat (first | apply Kd.R_alloc | apply Kd.R_drewN | apply Kd.R_drew)); exact HO172.out⟩, ⟨by repeat (first | (with_reducible first | exact HB.out | apply below_alloc | apply pw_below_drewN | apply below_drew1) | exact HB.out)⟩⟩
                          · rw [if_neg c36] at H
                            exact absurd H (by simp)
              · rw [if_neg c11] at H
                exact absurd H (by simp)
            · rw [if_neg c10] at H
              have c10b0 : decide (x6_2 < (l0.length : Int)) = false := decide_eq_false c10
              clear c10
              replace H := Option.bind_eq_some_iff.mp H
              obtain ⟨t173, A380, H⟩ := H
              replace H : (if t173.toList = (runesBytes x5_2).toList then (if a1 = true then (if (x5_2.length : Int) = 0 then (some true) else (if 0 ≤ (wrap64 ((x5_2.length : Int) - 1)) then (if (wrap64 ((x5_2.length : Int) - 1)) < (x5_2.length : Int) then (if (rd x5_2 (wrap64 ((x5_2.length : Int) - 1))) < 128 then (some true) else (if 0 ≤ (wrap64 (((runesBytes x5_2).size : Int) - 1)) then (if (wrap64 (((runesBytes x5_2).size : Int) - 1)) ≤ ((runesBytes x5_2).size : Int) then ((input_DecodeS.f ((runesBytes x5_2).extract 0 ((wrap64 (((runesBytes x5_2).size : Int) - 1)) : Int).toNat)).bind fun t175 => (if (wrap64 ((x5_2.length : Int) - 1)) ≤ (x5_2.length : Int) then ((some (x5_2.take ((wrap64 ((x5_2.length : Int) - 1)) : Int).toNat : List Int)).bind fun y176 => (if (runesBytes y176).size + 3 ≤ 9223372036854775807 then (some (t175.toList == ((runesBytes y176) ++ (⟨#[239, 191, 189]⟩ : ByteArray)).toList)) else (none))) else (none))) else (none)) else (none))) else (none)) else (none))) else (some true)) else (some false)) = some r := H
              have A38 := Aside0.mk A380
              clear A380
              by_cases c39 : t173.toList = (runesBytes x5_2).toList
              · rw [if_pos c39] at H
                have c39b0 : (t173.toList == (runesBytes x5_2).toList) = true := beq_iff_eq.mpr c39
                have c39b1 : (t173.toList != (runesBytes x5_2).toList) = false := bne_eq_false_iff_eq.mpr c39
                clear c39
                by_cases c40 : a1 = true
                · subst c40
                  have H1 : (if (x5_2.length : Int) = 0 then (some true) else (if 0 ≤ (wrap64 ((x5_2.length : Int) - 1)) then (if (wrap64 ((x5_2.length : Int) - 1)) < (x5_2.length : Int) then (if (rd x5_2 (wrap64 ((x5_2.length : Int) - 1))) < 128 then (some true) else (if 0 ≤ (wrap64 (((runesBytes x5_2).size : Int) - 1)) then (if (wrap64 (((runesBytes x5_2).size : Int) - 1)) ≤ ((runesBytes x5_2).size : Int) then ((input_DecodeS.f ((runesBytes x5_2).extract 0 ((wrap64 (((runesBytes x5_2).size : Int) - 1)) : Int).toNat)).bind fun t175 => (if (wrap64 ((x5_2.length : Int) - 1)) ≤ (x5_2.length : Int) then ((some (x5_2.take ((wrap64 ((x5_2.length : Int) - 1)) : Int).toNat : List Int)).bind fun y176 => (if (runesBytes y176).size + 3 ≤ 9223372036854775807 then (some (t175.toList == ((runesBytes y176) ++ (⟨#[239, 191, 189]⟩ : ByteArray)).toList)) else (none))) else (none))) else (none)) else (none))) else (none)) else (none))) = some r := by rw [if_pos rfl] at H; exact H
                  clear H
                  have H := H1
                  clear H1
                  by_cases c41 : (x5_2.length : Int) = 0
                  · rw [if_pos c41] at H
                    have c41b0 : ((x5_2.length : Int) == 0) = true := beq_iff_eq.mpr c41
                    have c41b1 : ((x5_2.length : Int) != 0) = false := bne_eq_false_iff_eq.mpr c41
                    clear c41
                    obtain rfl := Option.some.inj H
                    have hcv42 := own_runes (P := Tryd.prog) Tryd.underlying34 Tryd.underlying21 Tryd.underlying9 (Kd.own_of_R HO_5.out)
                    go_wp2_with (first | (go_at_call 14; (with_reducible refine (input_DecodeS.calls (runesBytes x5_2) t173 _ (hL.below (by repeat (first | (with_reducible first | exact HB.out | apply below_alloc | apply pw_below_drewN | apply below_drew1) | exact HB.out)) hL.size) (by first | rfl | exact size3 _ | exact size6 _ | exact size4 _ | (simp; done) | (rw [ByteArray.size_append]; rfl) | (simp [ByteArray.size_append]; done) | (simp [ByteArray.size_append] <;> omega)) rfl A38.out).mono ?_); rintro e w43 ⟨rfl, hb⟩; have n0_ := Aside0.mk (Kd.R_below (by (with_reducible repeat (first | apply Kd.R_alloc | apply Kd.R_drewN | apply Kd.R_drew)); exact HO_5.out) hb); have n1_ := Aside0.mk (below_step (by repeat (first | (with_reducible first | exact HB.out | apply below_alloc | apply pw_below_drewN | apply below_drew1) | exact HB.out)) hb); clear HO_5; clear HB; have HO_5 := n0_; have HB := n1_; clear n0_ n1_; (try clear hb); (try clear hb2); (try clear hk); (try clear hi); obtain ⟨Ao44, co44, eo44⟩ := Kd.R_slice HO_5.out; subst eo44))
                    go_ret
                    exact ⟨by first | rfl | (simp [errW_none, errW_some] <;> rfl) | (simp [*, errW_none, errW_some] <;> rfl), by repeat (first | (with_reducible first | exact HB.out | apply below_alloc | apply pw_below_drewN | apply below_drew1) | exact HB.out)⟩
                  · rw [if_neg c41] at H
                    have c41b0 : ((x5_2.length : Int) == 0) = false := beq_eq_false_iff_ne.mpr c41
                    have c41b1 : ((x5_2.length : Int) != 0) = true := bne_iff_ne.mpr c41
                    have c41b2 : ¬ (x5_2 = []) := fun h_ => c41 (by rw [h_]; rfl)
                    obtain ⟨ji45, hji45⟩ : ∃ j_ : Int, (wrap64 ((x5_2.length : Int) - 1)) = j_ := ⟨_, rfl⟩
                    replace H : (if 0 ≤ (ji45) then (if (ji45) < (x5_2.length : Int) then (if (rd x5_2 (ji45)) < 128 then (some true) else (if 0 ≤ (wrap64 (((runesBytes x5_2).size : Int) - 1)) then (if (wrap64 (((runesBytes x5_2).size : Int) - 1)) ≤ ((runesBytes x5_2).size : Int) then ((input_DecodeS.f ((runesBytes x5_2).extract 0 ((wrap64 (((runesBytes x5_2).size : Int) - 1)) : Int).toNat)).bind fun t175 => (if (ji45) ≤ (x5_2.length : Int) then ((some (x5_2.take ((ji45) : Int).toNat : List Int)).bind fun y176 => (if (runesBytes y176).size + 3 ≤ 9223372036854775807 then (some (t175.toList == ((runesBytes y176) ++ (⟨#[239, 191, 189]⟩ : ByteArray)).toList)) else (none))) else (none))) else (none)) else (none))) else (none)) else (none)) = some r := by first | (rw [hji45] at H; exact H) | (simp only [hji45] at H ⊢; exact H)
                    (try rw [hji45] at A38)
                    have hji45w : (IntKind.i64.wrap ((x5_2.length : Int) - 1)) = ji45 := (i64_w _).trans hji45
                    by_cases c46 : 0 ≤ (ji45)
                    · rw [if_pos c46] at H
                      have c46b0 : decide (0 ≤ (ji45)) = true := decide_eq_true c46
                      clear c46
                      by_cases c47 : (ji45) < (x5_2.length : Int)
                      · rw [if_pos c47] at H
                        have c47b0 : decide ((ji45) < (x5_2.length : Int)) = true := decide_eq_true c47
                        clear c47
                        by_cases c48 : (rd x5_2 (ji45)) < 128
                        · rw [if_pos c48] at H
                          have c48b0 : decide ((rd x5_2 (ji45)) < 128) = true := decide_eq_true c48
                          clear c48
                          obtain rfl := Option.some.inj H
                          have hcv49 := own_runes (P := Tryd.prog) Tryd.underlying34 Tryd.underlying21 Tryd.underlying9 (Kd.own_of_R HO_5.out)
                          go_wp2_with (first | (go_at_call 14; (with_reducible refine (input_DecodeS.calls (runesBytes x5_2) t173 _ (hL.below (by repeat (first | (with_reducible first | exact HB.out | apply below_alloc | apply pw_below_drewN | apply below_drew1) | exact HB.out)) hL.size) (by first | rfl | exact size3 _ | exact size6 _ | exact size4 _ | (simp; done) | (rw [ByteArray.size_append]; rfl) | (simp [ByteArray.size_append]; done) | (simp [ByteArray.size_append] <;> omega)) rfl A38.out).mono ?_); rintro e w50 ⟨rfl, hb⟩; have n0_ := Aside0.mk (Kd.R_below (by (with_reducible repeat (first | apply Kd.R_alloc | apply Kd.R_drewN | apply Kd.R_drew)); exact HO_5.out) hb); have n1_ := Aside0.mk (below_step (by repeat (first | (with_reducible first | exact HB.out | apply below_alloc | apply pw_below_drewN | apply below_drew1) | exact HB.out)) hb); clear HO_5; clear HB; have HO_5 := n0_; have HB := n1_; clear n0_ n1_; (try clear hb); (try clear hb2); (try clear hk); (try clear hi); obtain ⟨Ao51, co51, eo51⟩ := Kd.R_slice HO_5.out; subst eo51; have p174 : 0 ≤ ((ji45) : Int) := of_decide_eq_true (by first | (with_reducible assumption) | assumption); have q174 : (ji45) < (x5_2.length : Int) := of_decide_eq_true (by first | (with_reducible assumption) | assumption); obtain ⟨ad174, e174, hx174_0⟩ := Kd.at_int (Kd.R_reads' HO_5.out).2.2 (ji45) p174 q174; cases e174; replace p174 := eq_true p174; replace q174 := eq_true q174))
                          go_ret
                          exact ⟨by first | rfl | (simp [errW_none, errW_some] <;> rfl) | (simp only [← hji45]; first | rfl | (simp [errW_none, errW_some] <;> rfl)) | (simp [*, errW_none, errW_some] <;> rfl), by repeat (first | (with_reducible first | exact HB.out | apply below_alloc | apply pw_below_drewN | apply below_drew1) | exact HB.out)⟩
                        · rw [if_neg c48] at H
                          have c48b0 : decide ((rd x5_2 (ji45)) < 128) = false := decide_eq_false c48
                          clear c48
                          obtain ⟨ji52, hji52⟩ : ∃ j_ : Int, (wrap64 (((runesBytes x5_2).size : Int) - 1)) = j_ := ⟨_, rfl⟩
                          replace H : (if 0 ≤ (ji52) then (if (ji52) ≤ ((runesBytes x5_2).size : Int) then ((input_DecodeS.f ((runesBytes x5_2).extract 0 ((ji52) : Int).toNat)).bind fun t175 => (if (ji45) ≤ (x5_2.length : Int) then ((some (x5_2.take ((ji45) : Int).toNat : List Int)).bind fun y176 => (if (runesBytes y176).size + 3 ≤ 9223372036854775807 then (some (t175.toList == ((runesBytes y176) ++ (⟨#[239, 191, 189]⟩ : ByteArray)).toList)) else (none))) else (none))) else (none)) else (none)) = some r := by first | (rw [hji52] at H; exact H) | (simp only [hji52] at H ⊢; exact H)
                          (try rw [hji52] at A38)
                          have hji52w : (IntKind.i64.wrap (((runesBytes x5_2).size : Int) - 1)) = ji52 := (i64_w _).trans hji52
                          by_cases c53 : 0 ≤ (ji52)
                          · rw [if_pos c53] at H
                            have c53b0 := eq_true c53
                            have c53b1 : decide (0 ≤ (ji52)) = true := decide_eq_true c53
                            clear c53
                            by_cases c54 : (ji52) ≤ ((runesBytes x5_2).size : Int)
                            · rw [if_pos c54] at H
                              have c54b0 := eq_true c54
                              have c54b1 : decide ((ji52) ≤ ((runesBytes x5_2).size : Int)) = true := decide_eq_true c54
                              clear c54
                              replace H := Option.bind_eq_some_iff.mp H
                              obtain ⟨t175, A550, H⟩ := H
                              replace H : (if (ji45) ≤ (x5_2.length : Int) then ((some (x5_2.take ((ji45) : Int).toNat : List Int)).bind fun y176 => (if (runesBytes y176).size + 3 ≤ 9223372036854775807 then (some (t175.toList == ((runesBytes y176) ++ (⟨#[239, 191, 189]⟩ : ByteArray)).toList)) else (none))) else (none)) = some r := H
                              have A55 := Aside0.mk A550
                              clear A550
                              have c56b0 := eq_true (of_decide_eq_true (by first | (with_reducible assumption) | assumption) : 0 ≤ (ji45))
                              by_cases c57 : (ji45) ≤ (x5_2.length : Int)
                              · rw [if_pos c57] at H
                                have c57b0 := eq_true c57
                                have c57b1 : decide ((ji45) ≤ (x5_2.length : Int)) = true := decide_eq_true c57
                                clear c57
                                obtain ⟨y176, hy176⟩ : ∃ y_ : List Int, y_ = (x5_2.take ((ji45) : Int).toNat) := ⟨_, rfl⟩
                                replace H : (if (runesBytes y176).size + 3 ≤ 9223372036854775807 then (some (t175.toList == ((runesBytes y176) ++ (⟨#[239, 191, 189]⟩ : ByteArray)).toList)) else (none)) = some r := by first | (rw [hy176]; with_reducible exact H) | (have H2_ := (Option.bind_some _ _).symm.trans H; rw [hy176]; with_reducible exact H2_) | (have H2_ := (Option.bind_some _ _).symm.trans H; with_reducible exact H2_) | with_reducible exact H | (rw [hy176]; exact H) | exact H
                                have Ny176 := Aside0.mk hy176
                                clear hy176
                                by_cases c58 : (runesBytes y176).size + 3 ≤ 9223372036854775807
                                · rw [if_pos c58] at H
                                  have c58b0 := eq_true c58
                                  have c58b1 : decide ((runesBytes y176).size + 3 ≤ 9223372036854775807) = true := decide_eq_true c58
                                  try have c58b2 : (9223372036854775807 < (runesBytes y176).size + 3) = False := eq_false (Nat.not_lt.2 c58)
                                  obtain rfl := Option.some.inj H
                                  have hcv59 := own_runes (P := Tryd.prog) Tryd.underlying34 Tryd.underlying21 Tryd.underlying9 (Kd.own_of_R HO_5.out)
                                  try go_wp2_with (first | (go_at_call 14; (with_reducible refine (input_DecodeS.calls (runesBytes x5_2) t173 _ (hL.below (by repeat (first | (with_reducible first | exact HB.out | apply below_alloc | apply pw_below_drewN | apply below_drew1) | exact HB.out)) hL.size) (by first | rfl | exact size3 _ | exact size6 _ | exact size4 _ | (simp; done) | (rw [ByteArray.size_append]; rfl) | (simp [ByteArray.size_append]; done) | (simp [ByteArray.size_append] <;> omega)) rfl A38.out).mono ?_); rintro e w60 ⟨rfl, hb⟩; have n0_ := Aside0.mk (Kd.R_below (by (with_reducible repeat (first | apply Kd.R_alloc | apply Kd.R_drewN | apply Kd.R_drew)); exact HO_5.out) hb); have n1_ := Aside0.mk (below_step (by repeat (first | (with_reducible first | exact HB.out | apply below_alloc | apply pw_below_drewN | apply below_drew1) | exact HB.out)) hb); clear HO_5; clear HB; have HO_5 := n0_; have HB := n1_; clear n0_ n1_; (try clear hb); (try clear hb2); (try clear hk); (try clear hi); obtain ⟨Ao61, co61, eo61⟩ := Kd.R_slice HO_5.out; subst eo61; have p174 : 0 ≤ ((ji45) : Int) := of_decide_eq_true (by first | (with_reducible assumption) | assumption); have q174 : (ji45) < (x5_2.length : Int) := of_decide_eq_true (by first | (with_reducible assumption) | assumption); obtain ⟨ad174, e174, hx174_0⟩ := Kd.at_int (Kd.R_reads' HO_5.out).2.2 (ji45) p174 q174; cases e174; replace p174 := eq_true p174; replace q174 := eq_true q174))
                                  have n0_ := Aside0.mk (Kd.R_drew HO_5.out)
                                  have n1_ := Aside0.mk (below_drew1 HB.out)
                                  clear HO_5
                                  clear HB
                                  have HO_5 := n0_
                                  have HB := n1_
                                  clear n0_ n1_
                                  have q63 : ((ji45) : Int) ≤ ((x5_2.length : Int) : Int) := of_decide_eq_true (by first | (with_reducible assumption) | assumption)
                                  obtain ⟨i063, hi063, _, hsz63, _⟩ := info_parts info21
                                  have hroom63 : x5_2.length ≤ co61 := (Kd.R_reads' HO_5.out).2.1
                                  have hC63 : Kd.C (Kd.int .i32) _ (some ad174) x5_2.length x5_2 := (Kd.R_reads' HO_5.out).2.2
                                  have hcut63 := cut_to (P := Tryd.prog) 34 21 .i64 Tryd.underlying34 hi063 (some ad174) x5_2.length co61 (ji45) (of_decide_eq_true (by first | (with_reducible assumption) | assumption)) q63 hroom63
                                  have hr63 := Kd.C_take (m := ((ji45) : Int).toNat) hC63 (by omega)
                                  have hy63 : y176.length = ((ji45) : Int).toNat := (by rw [Ny176.out, List.length_take]; omega)
                                  rw [← Ny176.out] at hr63
                                  rw [← hy63] at hcut63
                                  have HR179 := Aside0.mk hr63
                                  have HC179 := Aside0.mk (show y176.length ≤ co61 from by omega)
                                  clear hr63 hC63 hroom63 hi063 hsz63
                                  have KY63 := Aside0.mk hy63
                                  clear hy63
                                  have KL63 := Aside0.mk (show ((ji45) : Int).toNat ≤ x5_2.length from by omega)
                                  replace q63 := eq_true q63
                                  refine start_ (n := 16) (S := fun w' => (convert 34 9 (.slice (some ad174) y176.length co61)).run Tryd.prog w' = .ok (.string (runesBytes y176)) w') (ds := []) #[false, false, false, false, false, false, false, false, false, false, false, false, false, false, false, false] (by kernel_rfl) rfl rfl (C_runes (P := Tryd.prog) (A := (some ad174)) (c := co61) Tryd.underlying34 Tryd.underlying21 Tryd.underlying9 HR179.out) (fun hHeld => ?_); refine with_tabW portierelaw01_InputRunes.tab16 portierelaw01_InputRunes.bits16 (fun HT_ HW_ => ?_)
                                  generalize w60.drew = w62 at HO_5 HB HR179 hHeld ⊢
                                  refine pure_ (i := 0) (N := some 76) (v := ?_) (a' := ?_) #[true, false, false, false, false, false, false, false, false, false, false, false, false, false, false, false] rfl rfl (any_of HT_.out (by kernel_rfl)) (fun _ _ _ h => h) (Or.inl ⟨by rfl, ?_⟩) ?_ ?_
                                  rotate_left
                                  · intro w'
                                    go_simp
                                    with_reducible rfl
                                  rotate_left
                                  · simp only [Act.put, List.setIfInBounds_toArray, List.set_cons_zero, List.set_cons_succ, i64_w, i32_w]
                                    rfl
                                  refine pure_ (i := 1) (N := some 77) (v := ?_) (a' := ?_) #[true, true, false, false, false, false, false, false, false, false, false, false, false, false, false, false] rfl rfl (any_of HT_.out (by kernel_rfl)) (fun _ _ _ h => h) (Or.inl ⟨by rfl, ?_⟩) ?_ ?_
                                  rotate_left
                                  · intro w'
                                    go_simp
                                    with_reducible rfl
                                  rotate_left
                                  · simp only [Act.put, List.setIfInBounds_toArray, List.set_cons_zero, List.set_cons_succ, i64_w, i32_w]
                                    rfl
                                  refine pure_ (i := 2) (N := some 78) (v := ?_) (a' := ?_) #[true, true, true, false, false, false, false, false, false, false, false, false, false, false, false, false] rfl rfl (any_of HT_.out (by kernel_rfl)) (fun _ _ _ h => h) (Or.inl ⟨by rfl, ?_⟩) ?_ ?_
                                  rotate_left
                                  · intro w'
                                    go_simp
                                    with_reducible rfl
                                  rotate_left
                                  · simp only [Act.put, List.setIfInBounds_toArray, List.set_cons_zero, List.set_cons_succ, i64_w, i32_w]
                                    rfl
                                  refine pure_ (i := 3) (N := some 79) (v := ?_) (a' := ?_) #[true, true, true, true, false, false, false, false, false, false, false, false, false, false, false, false] rfl rfl (any_of HT_.out (by kernel_rfl)) (fun _ _ _ h => h) (Or.inl ⟨by rfl, ?_⟩) ?_ ?_
                                  rotate_left
                                  · intro w'
                                    go_simp
                                    with_reducible rfl
                                  rotate_left
                                  · simp only [Act.put, List.setIfInBounds_toArray, List.set_cons_zero, List.set_cons_succ, i64_w, i32_w]
                                    rfl
                                  refine pure_ (i := 4) (N := some 80) (v := ?_) (a' := ?_) #[true, true, true, true, true, false, false, false, false, false, false, false, false, false, false, false] rfl rfl (any_of HT_.out (by kernel_rfl)) (fun _ _ _ h => h) (Or.inl ⟨by rfl, ?_⟩) ?_ ?_
                                  rotate_left
                                  · intro w'
                                    go_simp
                                    with_reducible rfl
                                  rotate_left
                                  · simp only [Act.put, List.setIfInBounds_toArray, List.set_cons_zero, List.set_cons_succ, i64_w, i32_w]
                                    rfl
                                  refine pure_ (i := 7) (N := some 83) (v := ?_) (a' := ?_) #[true, true, true, true, true, false, false, true, false, false, false, false, false, false, false, false] rfl rfl (any_of HT_.out (by kernel_rfl)) (fun _ _ _ h => h) (Or.inl ⟨by rfl, ?_⟩) ?_ ?_
                                  rotate_left
                                  · intro w'
                                    go_simp
                                    with_reducible rfl
                                  rotate_left
                                  · simp only [Act.put, List.setIfInBounds_toArray, List.set_cons_zero, List.set_cons_succ, i64_w, i32_w]
                                    rfl
                                  refine pure_ (i := 8) (N := some 84) (v := ?_) (a' := ?_) #[true, true, true, true, true, false, false, true, true, false, false, false, false, false, false, false] rfl rfl (any_of HT_.out (by kernel_rfl)) (fun _ _ _ h => h) (Or.inl ⟨by rfl, ?_⟩) ?_ ?_
                                  rotate_left
                                  · intro w'
                                    go_simp
                                    with_reducible rfl
                                  rotate_left
                                  · simp only [Act.put, List.setIfInBounds_toArray, List.set_cons_zero, List.set_cons_succ, i64_w, i32_w]
                                    rfl
                                  refine pure_ (i := 9) (N := some 85) (v := ?_) (a' := ?_) #[true, true, true, true, true, false, false, true, true, true, false, false, false, false, false, false] rfl rfl (any_of HT_.out (by kernel_rfl)) (fun _ _ _ h => h) (Or.inl ⟨by rfl, ?_⟩) ?_ ?_
                                  rotate_left
                                  · intro w'
                                    go_simp
                                    with_reducible rfl
                                  rotate_left
                                  · simp only [Act.put, List.setIfInBounds_toArray, List.set_cons_zero, List.set_cons_succ, i64_w, i32_w]
                                    rfl
                                  refine pure_ (i := 10) (N := some 86) (v := ?_) (a' := ?_) #[true, true, true, true, true, false, false, true, true, true, true, false, false, false, false, false] rfl rfl (any_of HT_.out (by kernel_rfl)) (fun _ _ _ h => h) (Or.inl ⟨by rfl, ?_⟩) ?_ ?_
                                  rotate_left
                                  · intro w'
                                    go_simp
                                    with_reducible rfl
                                  rotate_left
                                  · simp only [Act.put, List.setIfInBounds_toArray, List.set_cons_zero, List.set_cons_succ, i64_w, i32_w]
                                    rfl
                                  refine pure_ (i := 11) (N := some 87) (v := ?_) (a' := ?_) #[true, true, true, true, true, false, false, true, true, true, true, true, false, false, false, false] rfl rfl (any_of HT_.out (by kernel_rfl)) (fun _ _ _ h => h) (Or.inl ⟨by rfl, ?_⟩) ?_ ?_
                                  rotate_left
                                  · intro w'
                                    go_simp
                                    with_reducible rfl
                                  rotate_left
                                  · simp only [Act.put, List.setIfInBounds_toArray, List.set_cons_zero, List.set_cons_succ, i64_w, i32_w]
                                    rfl
                                  refine take_ (i := 12) (N := some 88) (v := ?_) (a' := ?_) #[true, true, true, true, true, false, false, true, true, true, true, true, true, false, false, false] rfl rfl (take_ofW HT_.out HW_.out (by kernel_rfl)) (fun _ _ _ h => h) (Or.inl ⟨by rfl, ?_⟩) hHeld ?_ ?_
                                  rotate_left
                                  · intro w' hS_
                                    go_simp
                                    first | with_reducible rfl | (rw [hS_]; first | with_reducible rfl | rfl)
                                  rotate_left
                                  · simp only [Act.put, List.setIfInBounds_toArray, List.set_cons_zero, List.set_cons_succ, i64_w, i32_w]
                                    rfl
                                  refine pure_ (i := 13) (N := some 89) (v := ?_) (a' := ?_) #[true, true, true, true, true, false, false, true, true, true, true, true, true, true, false, false] rfl rfl (any_of HT_.out (by kernel_rfl)) (fun _ _ _ h => h) (Or.inl ⟨by rfl, ?_⟩) ?_ ?_
                                  rotate_left
                                  · intro w'
                                    go_simp
                                    with_reducible rfl
                                  rotate_left
                                  · simp only [Act.put, List.setIfInBounds_toArray, List.set_cons_zero, List.set_cons_succ, i64_w, i32_w]
                                    rfl
                                  refine one_ (i := 5) (N := some 81) #[true, true, true, true, true, true, false, true, true, true, true, true, true, true, false, false] rfl rfl (one_of HT_.out (by kernel_rfl)) (by decide) (fun K hK => ?_)
                                  refine value_ (v := .slice (some ⟨w62.heap.size, 0, none⟩) ((ji52) : Int).toNat (grownCap w62 ((ji52) : Int).toNat 0 5)) (w1 := Lib.bytesWorld w62 5 ((runesBytes x5_2).extract 0 ((ji52) : Int).toNat)) (by rfl) rfl (by first | (go_simp; done) | (go_simp; rfl) | (go_simp; exact ⟨rfl, rfl⟩)) ?_
                                  refine hK.out _ _ (C_runes (P := Tryd.prog) (A := (some ad174)) (c := co61) Tryd.underlying34 Tryd.underlying21 Tryd.underlying9 (Kd.C_below HR179.out (bytes_below (Below.refl _ _) (Nat.le_refl _) 5 _))) (fun hHeld => ?_)
                                  clear hK K
                                  refine norm_ (a' := ?_) ?_ ?_
                                  rotate_left
                                  · show Act.put _ (some 81) _ = _
                                    simp only [Act.put, List.setIfInBounds_toArray, List.set_cons_zero, List.set_cons_succ, i64_w, i32_w]
                                    rfl
                                  refine one_ (i := 6) (N := some 82) #[true, true, true, true, true, true, true, true, true, true, true, true, true, true, false, false] rfl rfl (one_of HT_.out (by kernel_rfl)) (by decide) (fun K hK => ?_)
                                  refine goes_ Tryd.func14 (by kernel_rfl) rfl #[.slice (some ⟨w62.heap.size, 0, none⟩) ((ji52) : Int).toNat (grownCap w62 ((ji52) : Int).toNat 0 5)] (by rfl) rfl rfl (by (try simp only [List.map_toArray, List.map_cons, List.map_nil]); first | done | rfl | (simp only [List.length_drop, List.length_take]; rfl)) ?_
                                  with_reducible refine (input_DecodeS.calls ((runesBytes x5_2).extract 0 ((ji52) : Int).toNat) t175 w62 (hL.below (by repeat (first | (with_reducible first | exact HB.out | apply below_alloc | apply pw_below_drewN | apply below_drew1) | exact HB.out)) hL.size) (by have h1_ := of_decide_eq_true c53b1; have h2_ := of_decide_eq_true c54b1; rw [ByteArray.size_extract]; omega) rfl A55.out).mono ?_
                                  rintro e w64 ⟨rfl, hb⟩
                                  refine ⟨_, rfl, ?_⟩
                                  have n0_ := Aside0.mk (Kd.R_below (by (with_reducible repeat (first | apply Kd.R_alloc | apply Kd.R_drewN | apply Kd.R_drew)); exact HO_5.out) hb)
                                  have n1_ := Aside0.mk (Kd.C_below (by repeat (first | (with_reducible exact HR179.out) | (with_reducible refine Kd.C_alloc ?_ _) | (with_reducible refine Kd.C_drewN ?_ _) | (with_reducible refine Kd.C_drew ?_) | exact HR179.out)) hb)
                                  have n2_ := Aside0.mk (below_step (by repeat (first | (with_reducible first | exact HB.out | apply below_alloc | apply pw_below_drewN | apply below_drew1) | exact HB.out)) hb)
                                  clear HO_5
                                  clear HR179
                                  clear HB
                                  have HO_5 := n0_
                                  have HR179 := n1_
                                  have HB := n2_
                                  clear n0_ n1_ n2_
                                  (try clear hb)
                                  (try clear hb2)
                                  (try clear hk)
                                  (try clear hi)
                                  have hcv65 := C_runes (P := Tryd.prog) (A := (some ad174)) (c := co61) Tryd.underlying34 Tryd.underlying21 Tryd.underlying9 (by repeat (first | (with_reducible exact HR179.out) | (with_reducible refine Kd.C_alloc ?_ _) | (with_reducible refine Kd.C_drewN ?_ _) | (with_reducible refine Kd.C_drew ?_) | exact HR179.out))
                                  refine hK.out _ _ (C_runes (P := Tryd.prog) (A := (some ad174)) (c := co61) Tryd.underlying34 Tryd.underlying21 Tryd.underlying9 HR179.out) (fun hHeld => ?_)
                                  clear hK K
                                  refine norm_ (a' := ?_) ?_ ?_
                                  rotate_left
                                  · show Act.put _ (some 82) _ = _
                                    simp only [Act.put, List.setIfInBounds_toArray, List.set_cons_zero, List.set_cons_succ, i64_w, i32_w]
                                    rfl
                                  refine pure_ (i := 14) (N := some 90) (v := ?_) (a' := ?_) #[true, true, true, true, true, true, true, true, true, true, true, true, true, true, true, false] rfl rfl (any_of HT_.out (by kernel_rfl)) (fun _ _ _ h => h) (Or.inl ⟨by rfl, ?_⟩) ?_ ?_
                                  rotate_left
                                  · intro w'
                                    go_simp
                                    with_reducible rfl
                                  rotate_left
                                  · simp only [Act.put, List.setIfInBounds_toArray, List.set_cons_zero, List.set_cons_succ, i64_w, i32_w]
                                    rfl
                                  refine pure_ (i := 15) (N := some 4) (v := ?_) (a' := ?_) #[true, true, true, true, true, true, true, true, true, true, true, true, true, true, true, true] rfl rfl (any_of HT_.out (by kernel_rfl)) (fun _ _ _ h => h) (Or.inl ⟨by rfl, ?_⟩) ?_ ?_
                                  rotate_left
                                  · intro w'
                                    go_simp
                                    with_reducible rfl
                                  rotate_left
                                  · simp only [Act.put, List.setIfInBounds_toArray, List.set_cons_zero, List.set_cons_succ, i64_w, i32_w]
                                    rfl
                                  refine done_ (done_of HT_.out (by kernel_rfl)) ?_
                                  try go_wp2
                                  go_ret
                                  exact ⟨by first | rfl | (simp [errW_none, errW_some] <;> rfl) | (simp only [← hji45, ← hji52]; first | rfl | (simp [errW_none, errW_some] <;> rfl)) | (simp [*, errW_none, errW_some] <;> rfl), by repeat (first | (with_reducible first | exact HB.out | apply below_alloc | apply pw_below_drewN | apply below_drew1) | exact HB.out)⟩
                                · rw [if_neg c58] at H
                                  exact absurd H (by simp)
                              · rw [if_neg c57] at H
                                exact absurd H (by simp)
                            · rw [if_neg c54] at H
                              exact absurd H (by simp)
                          · rw [if_neg c53] at H
                            exact absurd H (by simp)
                      · rw [if_neg c47] at H
                        exact absurd H (by simp)
                    · rw [if_neg c46] at H
                      exact absurd H (by simp)
                · replace c40 := Bool.eq_false_iff.mpr c40
                  subst c40
                  have H1 : (some true) = some r := by rw [if_neg (show ¬ (false = true) by decide)] at H; exact H
                  clear H
                  have H := H1
                  clear H1
                  obtain rfl := Option.some.inj H
                  have hcv67 := own_runes (P := Tryd.prog) Tryd.underlying34 Tryd.underlying21 Tryd.underlying9 (Kd.own_of_R HO_5.out)
                  go_wp2_with (first | (go_at_call 14; (with_reducible refine (input_DecodeS.calls (runesBytes x5_2) t173 _ (hL.below (by repeat (first | (with_reducible first | exact HB.out | apply below_alloc | apply pw_below_drewN | apply below_drew1) | exact HB.out)) hL.size) (by first | rfl | exact size3 _ | exact size6 _ | exact size4 _ | (simp; done) | (rw [ByteArray.size_append]; rfl) | (simp [ByteArray.size_append]; done) | (simp [ByteArray.size_append] <;> omega)) rfl A38.out).mono ?_); rintro e w68 ⟨rfl, hb⟩; have n0_ := Aside0.mk (Kd.R_below (by (with_reducible repeat (first | apply Kd.R_alloc | apply Kd.R_drewN | apply Kd.R_drew)); exact HO_5.out) hb); have n1_ := Aside0.mk (below_step (by repeat (first | (with_reducible first | exact HB.out | apply below_alloc | apply pw_below_drewN | apply below_drew1) | exact HB.out)) hb); clear HO_5; clear HB; have HO_5 := n0_; have HB := n1_; clear n0_ n1_; (try clear hb); (try clear hb2); (try clear hk); (try clear hi)))
                  go_ret
                  exact ⟨by first | rfl | (simp [errW_none, errW_some] <;> rfl) | (simp [*, errW_none, errW_some] <;> rfl), by repeat (first | (with_reducible first | exact HB.out | apply below_alloc | apply pw_below_drewN | apply below_drew1) | exact HB.out)⟩
              · rw [if_neg c39] at H
                have c39b0 : (t173.toList == (runesBytes x5_2).toList) = false := beq_eq_false_iff_ne.mpr c39
                have c39b1 : (t173.toList != (runesBytes x5_2).toList) = true := bne_iff_ne.mpr c39
                obtain rfl := Option.some.inj H
                have hcv69 := own_runes (P := Tryd.prog) Tryd.underlying34 Tryd.underlying21 Tryd.underlying9 (Kd.own_of_R HO_5.out)
                go_wp2_with (first | (go_at_call 14; (with_reducible refine (input_DecodeS.calls (runesBytes x5_2) t173 _ (hL.below (by repeat (first | (with_reducible first | exact HB.out | apply below_alloc | apply pw_below_drewN | apply below_drew1) | exact HB.out)) hL.size) (by first | rfl | exact size3 _ | exact size6 _ | exact size4 _ | (simp; done) | (rw [ByteArray.size_append]; rfl) | (simp [ByteArray.size_append]; done) | (simp [ByteArray.size_append] <;> omega)) rfl A38.out).mono ?_); rintro e w70 ⟨rfl, hb⟩; have n0_ := Aside0.mk (Kd.R_below (by (with_reducible repeat (first | apply Kd.R_alloc | apply Kd.R_drewN | apply Kd.R_drew)); exact HO_5.out) hb); have n1_ := Aside0.mk (below_step (by repeat (first | (with_reducible first | exact HB.out | apply below_alloc | apply pw_below_drewN | apply below_drew1) | exact HB.out)) hb); clear HO_5; clear HB; have HO_5 := n0_; have HB := n1_; clear n0_ n1_; (try clear hb); (try clear hb2); (try clear hk); (try clear hi)))
                go_ret
                exact ⟨by first | rfl | (simp [errW_none, errW_some] <;> rfl) | (simp [*, errW_none, errW_some] <;> rfl), by repeat (first | (with_reducible first | exact HB.out | apply below_alloc | apply pw_below_drewN | apply below_drew1) | exact HB.out)⟩

/-- THE ONE PURE STATEMENT of portierelaw01_InputRunes: yours. -/
def portierelaw01_InputRunes.Pure : Prop := ∀ (l0 : List Int) (a1 : Bool), l0.length ≤ maxLen → l0.length * 4 ≤ 140737488351232 → (∀ x ∈ l0, (Lit.int .i32 x).wf = true) → ∃ k, portierelaw01_InputRunes.f k l0 a1 = some true
theorem portierelaw01_InputRunes.walk (P : portierelaw01_InputRunes.Pure) (a0 : Option Addr) (len0 cap0 : Nat) (z0 : List Int) (a1 : Bool) (w : World) (hL : LaidW w) (w0 : (a0 = none ∧ len0 = 0 ∧ cap0 = 0 ∧ z0 = []) ∨ ∃ x, a0 = some x ∧ len0 ≤ cap0 ∧ cap0 ≤ maxLen ∧ z0.length = cap0 ∧ (∀ i, i < z0.length → w.cell? (x.add i) = some (.int .i32 (z0.getD i 0))) ∧ ∀ n ∈ z0, (Lit.int .i32 n).wf = true) (y0 : len0 * 4 ≤ 140737488351232) :
    Calls Tryd.prog 8 #[.slice a0 len0 cap0, .bool a1] w fun e w' => e = .returned (.bool true) ∧ Below w.heap.size w w' := by
  obtain ⟨l0, rfl, hr0, hm0, hw0, hc0⟩ := ReadsInt.ofRowC w0
  obtain ⟨k, h⟩ := P l0 a1 hm0 y0 hw0
  refine (portierelaw01_InputRunes.calls k _ _ l0 a1 true w hL (Kd.C_of_reads (d := (0 : Int)) (h1 := fun _ => rfl) hr0) hc0 h).mono ?_
  rintro e w' ⟨rfl, hd⟩
  exact ⟨rfl, hd⟩

end Go.Proofs.YtoejbjmdcokojaaDoor.Q

-- patched
