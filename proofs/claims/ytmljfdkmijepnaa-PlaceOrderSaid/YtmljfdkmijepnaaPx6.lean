-- Written by wip/tools/gprint.py of this session, over the kit's print. Lean checks it.
import Derived.Test.YtmljfdkmijepnaaPx0
import Derived.Test.YtmljfdkmijepnaaPx2
import Derived.Test.YtmljfdkmijepnaaPx4
import Derived.Test.YtmljfdkmijepnaaPx5
namespace Go.Proofs.Ytmljfdkmijepnaa.P
open Go.Proofs.Ytmljfdkmijepnaa.Hand
open Go.RowKit Go.Proofs.YtmljfdkmijepnaaW.PrintWords Go.Proofs.YtmljfdkmijepnaaW.PrintLast Go.Proofs.YtmljfdkmijepnaaW.PrintMore
attribute [local go_sem] max2_int min2_int max_two min_two max_three min_three max_four min_four   -- for this text's walks alone
attribute [local go_sem] Go.IntKind.wrap_u32
set_option linter.unusedVariables false
set_option linter.unusedSimpArgs false

/-! ### portierelaw02_PlaceOf: function 6 -/
def portierelaw02_PlaceOf.j0 : Nat → ByteArray → Int → Int → Bool → Option (Bool)
  | 0, _, _, _, _ => none
  | k + 1, x0, x1, x2, x17 => if x17 = true then ((portierelaw02_known.f k).bind fun t143 => (some t143)) else ((place_Of.f k x0 x1 x2).bind fun bt144 => ((portiereref02_Of.f k x0 x1 x2).bind fun bt146 => (if bt144.1 = bt146.1 then (some (bt144.2 == bt146.2)) else (some false))))
def portierelaw02_PlaceOf.f (k : Nat) (a0 : ByteArray) (a1 : Int) (a2 : Int) : Option (Bool) := if (a0.size : Int) > 400 then (portierelaw02_PlaceOf.j0 k a0 a1 a2 true) else ((portierelaw02_known.f k).bind fun t142 => (portierelaw02_PlaceOf.j0 k a0 a1 a2 (!t142)))
theorem portierelaw02_PlaceOf.mono_l : ∀ k, (∀ y0 y1 y2 y3, LeO (portierelaw02_PlaceOf.j0 k y0 y1 y2 y3) (portierelaw02_PlaceOf.j0 (k + 1) y0 y1 y2 y3))
  | 0 => fun _ _ _ _ r h => by simp [portierelaw02_PlaceOf.j0] at h
  | k + 1 => by
    have ih0 := portierelaw02_PlaceOf.mono_l k
    · intro y0 y1 y2 y3
      unfold portierelaw02_PlaceOf.j0
      repeat' first
      | (with_reducible exact ih0 _ _ _ _)
      | (with_reducible exact place_Of.mono _ _ _ _)
      | (with_reducible exact portierelaw02_known.mono _)
      | (with_reducible exact portiereref02_Of.mono _ _ _ _)
      | (with_reducible exact LeO.refl _)
      | (with_reducible exact LeO.none _)
      | (with_reducible refine LeO.ite ?_ ?_)
      | (with_reducible refine LeO.bind ?_ (fun _ => ?_))
      | exact ih0 _ _ _ _
      | exact place_Of.mono _ _ _ _
      | exact portierelaw02_known.mono _
      | exact portiereref02_Of.mono _ _ _ _
      | exact LeO.none _
      | refine LeO.ite ?_ ?_
      | refine LeO.bind ?_ (fun _ => ?_)
theorem portierelaw02_PlaceOf.mono : ∀ a0 a1 a2 k, LeO (portierelaw02_PlaceOf.f k a0 a1 a2) (portierelaw02_PlaceOf.f (k + 1) a0 a1 a2) := by
  intro a0 a1 a2 k
  have ih0 := portierelaw02_PlaceOf.mono_l k
  unfold portierelaw02_PlaceOf.f
  repeat' first
      | (with_reducible exact ih0 _ _ _ _)
      | (with_reducible exact place_Of.mono _ _ _ _)
      | (with_reducible exact portierelaw02_known.mono _)
      | (with_reducible exact portiereref02_Of.mono _ _ _ _)
      | (with_reducible exact LeO.refl _)
      | (with_reducible exact LeO.none _)
      | (with_reducible refine LeO.ite ?_ ?_)
      | (with_reducible refine LeO.bind ?_ (fun _ => ?_))
      | exact ih0 _ _ _ _
      | exact place_Of.mono _ _ _ _
      | exact portierelaw02_known.mono _
      | exact portiereref02_Of.mono _ _ _ _
      | exact LeO.none _
      | refine LeO.ite ?_ ?_
      | refine LeO.bind ?_ (fun _ => ?_)
set_option maxHeartbeats 8000000 in
set_option maxRecDepth 100000 in
theorem portierelaw02_PlaceOf.calls (k : Nat) (a0 : ByteArray) (a1 : Int) (a2 : Int) (r : Bool) (w : World) (h : portierelaw02_PlaceOf.f k a0 a1 a2 = some r) :
    Calls Try.prog 6 #[.string a0, .int .i64 a1, .int .i64 a2] w fun e w' => e = .returned (.bool r) ∧ Below w.heap.size w w' := by
  have HB := Aside0.mk (Below.refl w.heap.size w)
  have H : (if (a0.size : Int) > 400 then (portierelaw02_PlaceOf.j0 k a0 a1 a2 true) else ((portierelaw02_known.f k).bind fun t142 => (portierelaw02_PlaceOf.j0 k a0 a1 a2 (!t142)))) = some r := h
  clear h
  have HC4 := Aside0.mk H
  clear H
  go_enter Try.func6, Try.ntmps6
  go_upto_region 1 with (fail)
  go_cut [17] (fun v17 wc => ∃ (kq : Nat) (x17_3 : Bool), v17 = .bool x17_3 ∧ Aside0 (portierelaw02_PlaceOf.j0 kq a0 a1 a2 x17_3 = some r) ∧ Aside0 (kq ≤ k) ∧ Aside0 (Below w.heap.size w wc))
  case first =>
    have H := HC4.out
    clear HC4
    by_cases c5 : (a0.size : Int) > 400
    · rw [if_pos c5] at H
      have c5b0 : decide (400 < (a0.size : Int)) = true := decide_eq_true c5
      have c5b1 : decide (400 < a0.size) = true := decide_eq_true (by omega)
      clear c5
      (first | rw [c5b0] | (simp only [i64_w, i32_w]; rw [c5b0]) | skip)
      have H' := Aside0.mk H
      clear H
      go_wp2
      go_meet
      case rel => exact ⟨_, (true), (by first | rfl | (simp; done) | (simp [*]; done)), H', ⟨by first | omega | exact Nat.le_refl _⟩, ⟨by repeat (first | (with_reducible first | exact HB.out | apply below_alloc | apply pw_below_drewN | apply below_drew1) | exact HB.out)⟩⟩
    · rw [if_neg c5] at H
      have c5b0 : decide (400 < (a0.size : Int)) = false := decide_eq_false c5
      have c5b1 : decide (400 < a0.size) = false := decide_eq_false (by omega)
      clear c5
      (first | rw [c5b0] | (simp only [i64_w, i32_w]; rw [c5b0]) | skip)
      replace H := Option.bind_eq_some_iff.mp H
      obtain ⟨t142, A60, H⟩ := H
      replace H : (portierelaw02_PlaceOf.j0 k a0 a1 a2 (!t142)) = some r := H
      have A6 := Aside0.mk A60
      clear A60
      have H' := Aside0.mk H
      clear H
      go_wp2_with (first | (go_at_call 10; (with_reducible refine (portierelaw02_known.calls k  t142 _ A6.out).mono ?_); rintro e w7 ⟨rfl, hb⟩; have n0_ := Aside0.mk (below_step (by repeat (first | (with_reducible first | exact HB.out | apply below_alloc | apply pw_below_drewN | apply below_drew1) | exact HB.out)) hb); clear HB; have HB := n0_; clear n0_; (try clear hb); (try clear hb2); (try clear hk); (try clear hi)))
      go_meet
      case rel => exact ⟨_, (!t142), (by first | rfl | (simp; done) | (simp [*]; done)), H', ⟨by first | omega | exact Nat.le_refl _⟩, ⟨by repeat (first | (with_reducible first | exact HB.out | apply below_alloc | apply pw_below_drewN | apply below_drew1) | exact HB.out)⟩⟩
  case rest =>
    clear HC4
    try clear p2
    try clear c5
    try clear c5b0
    try clear c5b1
    try clear c6
    obtain ⟨kq, x17_3, rfl, HA, HJ3, HB⟩ := hcut
    cases kq with
    | zero => exact absurd HA.out (by simp [portierelaw02_PlaceOf.j0])
    | succ kj3 =>
      have H := HA.out
      clear HA
      simp only [portierelaw02_PlaceOf.j0] at H
      by_cases c8 : x17_3 = true
      · subst c8
        have H1 : ((portierelaw02_known.f kj3).bind fun t143 => (some t143)) = some r := by rw [if_pos rfl] at H; exact H
        clear H
        have H := H1
        clear H1
        replace H := Option.bind_eq_some_iff.mp H
        obtain ⟨t143, A90, H⟩ := H
        replace H : (some t143) = some r := H
        have A9 := Aside0.mk A90
        clear A90
        obtain rfl := Option.some.inj H
        go_wp2_with (first | ((with_reducible refine gate_callee (f := 10) rfl ?_); refine goesL_ (some 18) rfl rfl Try.func10 (by kernel_rfl) rfl #[] rfl (by (try simp only [List.map_toArray, List.map_cons, List.map_nil]); first | done | rfl | (simp only [List.length_drop, List.length_take]; rfl)) ?_; (with_reducible refine (portierelaw02_known.calls kj3  t143 _ A9.out).mono ?_); rintro e w10 ⟨rfl, hb⟩; refine ⟨_, rfl, ?_⟩; have n0_ := Aside0.mk (below_step (by repeat (first | (with_reducible first | exact HB.out | apply below_alloc | apply pw_below_drewN | apply below_drew1) | exact HB.out)) hb); clear HB; have HB := n0_; clear n0_; (try clear hb); (try clear hb2); (try clear hk); (try clear hi)))
        go_ret
        exact ⟨by first | rfl | (simp [errW_none, errW_some] <;> rfl) | (simp [*, errW_none, errW_some] <;> rfl), by repeat (first | (with_reducible first | exact HB.out | apply below_alloc | apply pw_below_drewN | apply below_drew1) | exact HB.out)⟩
      · replace c8 := Bool.eq_false_iff.mpr c8
        subst c8
        have H1 : ((place_Of.f kj3 a0 a1 a2).bind fun bt144 => ((portiereref02_Of.f kj3 a0 a1 a2).bind fun bt146 => (if bt144.1 = bt146.1 then (some (bt144.2 == bt146.2)) else (some false)))) = some r := by rw [if_neg (show ¬ (false = true) by decide)] at H; exact H
        clear H
        have H := H1
        clear H1
        replace H := Option.bind_eq_some_iff.mp H
        obtain ⟨⟨t144, t145⟩, A110, H⟩ := H
        replace H : ((portiereref02_Of.f kj3 a0 a1 a2).bind fun bt146 => (if t144 = bt146.1 then (some (t145 == bt146.2)) else (some false))) = some r := H
        have A11 := Aside0.mk A110
        clear A110
        replace H := Option.bind_eq_some_iff.mp H
        obtain ⟨⟨t146, t147⟩, A120, H⟩ := H
        replace H : (if t144 = t146 then (some (t145 == t147)) else (some false)) = some r := H
        have A12 := Aside0.mk A120
        clear A120
        by_cases c13 : t144 = t146
        · rw [if_pos c13] at H
          have c13b0 : (t144 == t146) = true := beq_iff_eq.mpr c13
          have c13b1 : (t144 != t146) = false := bne_eq_false_iff_eq.mpr c13
          clear c13
          obtain rfl := Option.some.inj H
          go_wp2_with (first | ((with_reducible refine gate_callee (f := 12) rfl ?_); refine goesL_ (some 23) rfl rfl Try.func12 (by kernel_rfl) rfl #[.string a0, .int .i64 a1, .int .i64 a2] rfl (by (try simp only [List.map_toArray, List.map_cons, List.map_nil]); first | done | rfl | (simp only [List.length_drop, List.length_take]; rfl)) ?_; (with_reducible refine (place_Of.calls kj3 a0 a1 a2 t144 t145 _ A11.out).mono ?_); rintro e w14 ⟨rfl, hb⟩; refine ⟨_, rfl, ?_⟩; have n0_ := Aside0.mk (below_step (by repeat (first | (with_reducible first | exact HB.out | apply below_alloc | apply pw_below_drewN | apply below_drew1) | exact HB.out)) hb); clear HB; have HB := n0_; clear n0_; (try clear hb); (try clear hb2); (try clear hk); (try clear hi)) | ((with_reducible refine gate_callee (f := 14) rfl ?_); refine goesL_ (some 30) rfl rfl Try.func14 (by kernel_rfl) rfl #[.string a0, .int .i64 a1, .int .i64 a2] rfl (by (try simp only [List.map_toArray, List.map_cons, List.map_nil]); first | done | rfl | (simp only [List.length_drop, List.length_take]; rfl)) ?_; (with_reducible refine (portiereref02_Of.calls kj3 a0 a1 a2 t146 t147 _ A12.out).mono ?_); rintro e w15 ⟨rfl, hb⟩; refine ⟨_, rfl, ?_⟩; have n0_ := Aside0.mk (below_step (by repeat (first | (with_reducible first | exact HB.out | apply below_alloc | apply pw_below_drewN | apply below_drew1) | exact HB.out)) hb); clear HB; have HB := n0_; clear n0_; (try clear hb); (try clear hb2); (try clear hk); (try clear hi)))
          go_ret
          exact ⟨by first | rfl | (simp [errW_none, errW_some] <;> rfl) | (simp [*, errW_none, errW_some] <;> rfl), by repeat (first | (with_reducible first | exact HB.out | apply below_alloc | apply pw_below_drewN | apply below_drew1) | exact HB.out)⟩
        · rw [if_neg c13] at H
          have c13b0 : (t144 == t146) = false := beq_eq_false_iff_ne.mpr c13
          have c13b1 : (t144 != t146) = true := bne_iff_ne.mpr c13
          obtain rfl := Option.some.inj H
          go_wp2_with (first | ((with_reducible refine gate_callee (f := 12) rfl ?_); refine goesL_ (some 23) rfl rfl Try.func12 (by kernel_rfl) rfl #[.string a0, .int .i64 a1, .int .i64 a2] rfl (by (try simp only [List.map_toArray, List.map_cons, List.map_nil]); first | done | rfl | (simp only [List.length_drop, List.length_take]; rfl)) ?_; (with_reducible refine (place_Of.calls kj3 a0 a1 a2 t144 t145 _ A11.out).mono ?_); rintro e w16 ⟨rfl, hb⟩; refine ⟨_, rfl, ?_⟩; have n0_ := Aside0.mk (below_step (by repeat (first | (with_reducible first | exact HB.out | apply below_alloc | apply pw_below_drewN | apply below_drew1) | exact HB.out)) hb); clear HB; have HB := n0_; clear n0_; (try clear hb); (try clear hb2); (try clear hk); (try clear hi)) | ((with_reducible refine gate_callee (f := 14) rfl ?_); refine goesL_ (some 30) rfl rfl Try.func14 (by kernel_rfl) rfl #[.string a0, .int .i64 a1, .int .i64 a2] rfl (by (try simp only [List.map_toArray, List.map_cons, List.map_nil]); first | done | rfl | (simp only [List.length_drop, List.length_take]; rfl)) ?_; (with_reducible refine (portiereref02_Of.calls kj3 a0 a1 a2 t146 t147 _ A12.out).mono ?_); rintro e w17 ⟨rfl, hb⟩; refine ⟨_, rfl, ?_⟩; have n0_ := Aside0.mk (below_step (by repeat (first | (with_reducible first | exact HB.out | apply below_alloc | apply pw_below_drewN | apply below_drew1) | exact HB.out)) hb); clear HB; have HB := n0_; clear n0_; (try clear hb); (try clear hb2); (try clear hk); (try clear hi)))
          go_ret
          exact ⟨by first | rfl | (simp [errW_none, errW_some] <;> rfl) | (simp [*, errW_none, errW_some] <;> rfl), by repeat (first | (with_reducible first | exact HB.out | apply below_alloc | apply pw_below_drewN | apply below_drew1) | exact HB.out)⟩

/-- THE ONE PURE STATEMENT of portierelaw02_PlaceOf: yours. -/
def portierelaw02_PlaceOf.Pure : Prop := ∀ (a0 : ByteArray) (a1 : Int) (a2 : Int), a0.size ≤ 140737488351232 → (Lit.int .i64 a1).wf = true → (Lit.int .i64 a2).wf = true → ∃ k, portierelaw02_PlaceOf.f k a0 a1 a2 = some true
theorem portierelaw02_PlaceOf.walk (P : portierelaw02_PlaceOf.Pure) (a0 : ByteArray) (a1 : Int) (a2 : Int) (w : World) (w0 : a0.size ≤ 140737488351232) (w1 : (Lit.int .i64 a1).wf = true) (w2 : (Lit.int .i64 a2).wf = true) :
    Calls Try.prog 6 #[.string a0, .int .i64 a1, .int .i64 a2] w fun e w' => e = .returned (.bool true) ∧ Below w.heap.size w w' := by
  obtain ⟨k, h⟩ := P a0 a1 a2 w0 w1 w2
  refine (portierelaw02_PlaceOf.calls k a0 a1 a2 true w h).mono ?_
  rintro e w' ⟨rfl, hd⟩
  exact ⟨rfl, hd⟩

/-! ### portierelaw02_PlaceBack: function 7 -/
def portierelaw02_PlaceBack.j0 : Nat → ByteArray → Int → Bool → Option (Bool)
  | 0, _, _, _ => none
  | k + 1, x0, x1, x18 => if x18 = true then ((portierelaw02_known.f k).bind fun t149 => (some t149)) else (if (wrap64 ((x0.size : Int) + 1)) = 0 then (none) else ((place_At.f x0 ((mx x1 0) % (wrap64 ((x0.size : Int) + 1)))).bind fun bt150 => ((place_Of.f k x0 bt150.1 bt150.2).bind fun bt152 => ((place_At.f x0 bt152.1).bind fun bt154 => (if bt152.2 = true then (if bt152.1 ≤ ((mx x1 0) % (wrap64 ((x0.size : Int) + 1))) then (if bt150.1 = bt154.1 then (if bt150.2 = bt154.2 then (if bt150.1 ≥ 1 then (some (decide (bt150.2 ≥ 1))) else (some false)) else (some false)) else (some false)) else (some false)) else (some false))))))
def portierelaw02_PlaceBack.f (k : Nat) (a0 : ByteArray) (a1 : Int) : Option (Bool) := if (a0.size : Int) > 2000 then (portierelaw02_PlaceBack.j0 k a0 a1 true) else ((portierelaw02_known.f k).bind fun t148 => (portierelaw02_PlaceBack.j0 k a0 a1 (!t148)))
theorem portierelaw02_PlaceBack.mono_l : ∀ k, (∀ y0 y1 y2, LeO (portierelaw02_PlaceBack.j0 k y0 y1 y2) (portierelaw02_PlaceBack.j0 (k + 1) y0 y1 y2))
  | 0 => fun _ _ _ r h => by simp [portierelaw02_PlaceBack.j0] at h
  | k + 1 => by
    have ih0 := portierelaw02_PlaceBack.mono_l k
    · intro y0 y1 y2
      unfold portierelaw02_PlaceBack.j0
      repeat' first
      | (with_reducible exact ih0 _ _ _)
      | (with_reducible exact place_Of.mono _ _ _ _)
      | (with_reducible exact portierelaw02_known.mono _)
      | (with_reducible exact LeO.refl _)
      | (with_reducible exact LeO.none _)
      | (with_reducible refine LeO.ite ?_ ?_)
      | (with_reducible refine LeO.bind ?_ (fun _ => ?_))
      | exact ih0 _ _ _
      | exact place_Of.mono _ _ _ _
      | exact portierelaw02_known.mono _
      | exact LeO.none _
      | refine LeO.ite ?_ ?_
      | refine LeO.bind ?_ (fun _ => ?_)
theorem portierelaw02_PlaceBack.mono : ∀ a0 a1 k, LeO (portierelaw02_PlaceBack.f k a0 a1) (portierelaw02_PlaceBack.f (k + 1) a0 a1) := by
  intro a0 a1 k
  have ih0 := portierelaw02_PlaceBack.mono_l k
  unfold portierelaw02_PlaceBack.f
  repeat' first
      | (with_reducible exact ih0 _ _ _)
      | (with_reducible exact place_Of.mono _ _ _ _)
      | (with_reducible exact portierelaw02_known.mono _)
      | (with_reducible exact LeO.refl _)
      | (with_reducible exact LeO.none _)
      | (with_reducible refine LeO.ite ?_ ?_)
      | (with_reducible refine LeO.bind ?_ (fun _ => ?_))
      | exact ih0 _ _ _
      | exact place_Of.mono _ _ _ _
      | exact portierelaw02_known.mono _
      | exact LeO.none _
      | refine LeO.ite ?_ ?_
      | refine LeO.bind ?_ (fun _ => ?_)
set_option maxHeartbeats 8000000 in
set_option maxRecDepth 100000 in
theorem portierelaw02_PlaceBack.calls (k : Nat) (a0 : ByteArray) (a1 : Int) (r : Bool) (w : World) (h : portierelaw02_PlaceBack.f k a0 a1 = some r) :
    Calls Try.prog 7 #[.string a0, .int .i64 a1] w fun e w' => e = .returned (.bool r) ∧ Below w.heap.size w w' := by
  have HB := Aside0.mk (Below.refl w.heap.size w)
  have H : (if (a0.size : Int) > 2000 then (portierelaw02_PlaceBack.j0 k a0 a1 true) else ((portierelaw02_known.f k).bind fun t148 => (portierelaw02_PlaceBack.j0 k a0 a1 (!t148)))) = some r := h
  clear h
  have HC3 := Aside0.mk H
  clear H
  go_enter Try.func7, Try.ntmps7
  go_upto_region 1 with (fail)
  go_cut [18] (fun v18 wc => ∃ (kq : Nat) (x18_2 : Bool), v18 = .bool x18_2 ∧ Aside0 (portierelaw02_PlaceBack.j0 kq a0 a1 x18_2 = some r) ∧ Aside0 (kq ≤ k) ∧ Aside0 (Below w.heap.size w wc))
  case first =>
    have H := HC3.out
    clear HC3
    by_cases c4 : (a0.size : Int) > 2000
    · rw [if_pos c4] at H
      have c4b0 : decide (2000 < (a0.size : Int)) = true := decide_eq_true c4
      have c4b1 : decide (2000 < a0.size) = true := decide_eq_true (by omega)
      clear c4
      (first | rw [c4b0] | (simp only [i64_w, i32_w]; rw [c4b0]) | skip)
      have H' := Aside0.mk H
      clear H
      go_wp2
      go_meet
      case rel => exact ⟨_, (true), (by first | rfl | (simp; done) | (simp [*]; done)), H', ⟨by first | omega | exact Nat.le_refl _⟩, ⟨by repeat (first | (with_reducible first | exact HB.out | apply below_alloc | apply pw_below_drewN | apply below_drew1) | exact HB.out)⟩⟩
    · rw [if_neg c4] at H
      have c4b0 : decide (2000 < (a0.size : Int)) = false := decide_eq_false c4
      have c4b1 : decide (2000 < a0.size) = false := decide_eq_false (by omega)
      clear c4
      (first | rw [c4b0] | (simp only [i64_w, i32_w]; rw [c4b0]) | skip)
      replace H := Option.bind_eq_some_iff.mp H
      obtain ⟨t148, A50, H⟩ := H
      replace H : (portierelaw02_PlaceBack.j0 k a0 a1 (!t148)) = some r := H
      have A5 := Aside0.mk A50
      clear A50
      have H' := Aside0.mk H
      clear H
      go_wp2_with (first | (go_at_call 10; (with_reducible refine (portierelaw02_known.calls k  t148 _ A5.out).mono ?_); rintro e w6 ⟨rfl, hb⟩; have n0_ := Aside0.mk (below_step (by repeat (first | (with_reducible first | exact HB.out | apply below_alloc | apply pw_below_drewN | apply below_drew1) | exact HB.out)) hb); clear HB; have HB := n0_; clear n0_; (try clear hb); (try clear hb2); (try clear hk); (try clear hi)))
      go_meet
      case rel => exact ⟨_, (!t148), (by first | rfl | (simp; done) | (simp [*]; done)), H', ⟨by first | omega | exact Nat.le_refl _⟩, ⟨by repeat (first | (with_reducible first | exact HB.out | apply below_alloc | apply pw_below_drewN | apply below_drew1) | exact HB.out)⟩⟩
  case rest =>
    clear HC3
    try clear p2
    try clear c4
    try clear c4b0
    try clear c4b1
    obtain ⟨kq, x18_2, rfl, HA, HJ2, HB⟩ := hcut
    cases kq with
    | zero => exact absurd HA.out (by simp [portierelaw02_PlaceBack.j0])
    | succ kj2 =>
      have H := HA.out
      clear HA
      simp only [portierelaw02_PlaceBack.j0] at H
      by_cases c7 : x18_2 = true
      · subst c7
        have H1 : ((portierelaw02_known.f kj2).bind fun t149 => (some t149)) = some r := by rw [if_pos rfl] at H; exact H
        clear H
        have H := H1
        clear H1
        replace H := Option.bind_eq_some_iff.mp H
        obtain ⟨t149, A80, H⟩ := H
        replace H : (some t149) = some r := H
        have A8 := Aside0.mk A80
        clear A80
        obtain rfl := Option.some.inj H
        go_wp2_with (first | ((with_reducible refine gate_callee (f := 10) rfl ?_); refine goesL_ (some 19) rfl rfl Try.func10 (by kernel_rfl) rfl #[] rfl (by (try simp only [List.map_toArray, List.map_cons, List.map_nil]); first | done | rfl | (simp only [List.length_drop, List.length_take]; rfl)) ?_; (with_reducible refine (portierelaw02_known.calls kj2  t149 _ A8.out).mono ?_); rintro e w9 ⟨rfl, hb⟩; refine ⟨_, rfl, ?_⟩; have n0_ := Aside0.mk (below_step (by repeat (first | (with_reducible first | exact HB.out | apply below_alloc | apply pw_below_drewN | apply below_drew1) | exact HB.out)) hb); clear HB; have HB := n0_; clear n0_; (try clear hb); (try clear hb2); (try clear hk); (try clear hi)))
        go_ret
        exact ⟨by first | rfl | (simp [errW_none, errW_some] <;> rfl) | (simp [*, errW_none, errW_some] <;> rfl), by repeat (first | (with_reducible first | exact HB.out | apply below_alloc | apply pw_below_drewN | apply below_drew1) | exact HB.out)⟩
      · replace c7 := Bool.eq_false_iff.mpr c7
        subst c7
        have H1 : (if (wrap64 ((a0.size : Int) + 1)) = 0 then (none) else ((place_At.f a0 ((mx a1 0) % (wrap64 ((a0.size : Int) + 1)))).bind fun bt150 => ((place_Of.f kj2 a0 bt150.1 bt150.2).bind fun bt152 => ((place_At.f a0 bt152.1).bind fun bt154 => (if bt152.2 = true then (if bt152.1 ≤ ((mx a1 0) % (wrap64 ((a0.size : Int) + 1))) then (if bt150.1 = bt154.1 then (if bt150.2 = bt154.2 then (if bt150.1 ≥ 1 then (some (decide (bt150.2 ≥ 1))) else (some false)) else (some false)) else (some false)) else (some false)) else (some false)))))) = some r := by rw [if_neg (show ¬ (false = true) by decide)] at H; exact H
        clear H
        have H := H1
        clear H1
        obtain ⟨ji10, hji10⟩ : ∃ j_ : Int, (mx a1 0) = j_ := ⟨_, rfl⟩
        replace H : (if (wrap64 ((a0.size : Int) + 1)) = 0 then (none) else ((place_At.f a0 ((ji10) % (wrap64 ((a0.size : Int) + 1)))).bind fun bt150 => ((place_Of.f kj2 a0 bt150.1 bt150.2).bind fun bt152 => ((place_At.f a0 bt152.1).bind fun bt154 => (if bt152.2 = true then (if bt152.1 ≤ ((ji10) % (wrap64 ((a0.size : Int) + 1))) then (if bt150.1 = bt154.1 then (if bt150.2 = bt154.2 then (if bt150.1 ≥ 1 then (some (decide (bt150.2 ≥ 1))) else (some false)) else (some false)) else (some false)) else (some false)) else (some false)))))) = some r := by first | (rw [hji10] at H; exact H) | (simp only [hji10] at H ⊢; exact H)
        have hji10_ : (if a1 < 0 then 0 else a1) = ji10 := hji10
        by_cases c11 : (wrap64 ((a0.size : Int) + 1)) = 0
        · rw [if_pos c11] at H
          exact absurd H (by simp)
        · rw [if_neg c11] at H
          (try (have c11u : ¬ ((((a0.size : Int) + 1)) = 0) := by (have h_ := c11; unfold wrap64 at h_; omega)))
          (try (have c11ub0 : ((((a0.size : Int) + 1)) == 0) = false := beq_eq_false_iff_ne.mpr c11u))
          (try (have c11ub1 : ((((a0.size : Int) + 1)) != 0) = true := bne_iff_ne.mpr c11u))
          have c11b0 : ((wrap64 ((a0.size : Int) + 1)) == 0) = false := beq_eq_false_iff_ne.mpr c11
          have c11b1 : ((wrap64 ((a0.size : Int) + 1)) != 0) = true := bne_iff_ne.mpr c11
          replace H := Option.bind_eq_some_iff.mp H
          obtain ⟨⟨t150, t151⟩, A120, H⟩ := H
          replace H : ((place_Of.f kj2 a0 t150 t151).bind fun bt152 => ((place_At.f a0 bt152.1).bind fun bt154 => (if bt152.2 = true then (if bt152.1 ≤ ((ji10) % (wrap64 ((a0.size : Int) + 1))) then (if t150 = bt154.1 then (if t151 = bt154.2 then (if t150 ≥ 1 then (some (decide (t151 ≥ 1))) else (some false)) else (some false)) else (some false)) else (some false)) else (some false)))) = some r := H
          have A12 := Aside0.mk A120
          clear A120
          replace H := Option.bind_eq_some_iff.mp H
          obtain ⟨⟨t152, t153⟩, A130, H⟩ := H
          replace H : ((place_At.f a0 t152).bind fun bt154 => (if t153 = true then (if t152 ≤ ((ji10) % (wrap64 ((a0.size : Int) + 1))) then (if t150 = bt154.1 then (if t151 = bt154.2 then (if t150 ≥ 1 then (some (decide (t151 ≥ 1))) else (some false)) else (some false)) else (some false)) else (some false)) else (some false))) = some r := H
          have A13 := Aside0.mk A130
          clear A130
          replace H := Option.bind_eq_some_iff.mp H
          obtain ⟨⟨t154, t155⟩, A140, H⟩ := H
          replace H : (if t153 = true then (if t152 ≤ ((ji10) % (wrap64 ((a0.size : Int) + 1))) then (if t150 = t154 then (if t151 = t155 then (if t150 ≥ 1 then (some (decide (t151 ≥ 1))) else (some false)) else (some false)) else (some false)) else (some false)) else (some false)) = some r := H
          have A14 := Aside0.mk A140
          clear A140
          by_cases c15 : t153 = true
          · subst c15
            have H1 : (if t152 ≤ ((ji10) % (wrap64 ((a0.size : Int) + 1))) then (if t150 = t154 then (if t151 = t155 then (if t150 ≥ 1 then (some (decide (t151 ≥ 1))) else (some false)) else (some false)) else (some false)) else (some false)) = some r := by rw [if_pos rfl] at H; exact H
            clear H
            have H := H1
            clear H1
            by_cases c16 : t152 ≤ ((ji10) % (wrap64 ((a0.size : Int) + 1)))
            · rw [if_pos c16] at H
              (try (have c16u : (t152 ≤ ((ji10) % (((a0.size : Int) + 1)))) := by (have h_ := c16; unfold wrap64 at h_; omega)))
              (try (have c16ub0 : decide (t152 ≤ ((ji10) % (((a0.size : Int) + 1)))) = true := decide_eq_true c16u))
              (try clear c16u)
              have c16b0 : decide (t152 ≤ ((ji10) % (wrap64 ((a0.size : Int) + 1)))) = true := decide_eq_true c16
              clear c16
              by_cases c17 : t150 = t154
              · rw [if_pos c17] at H
                have c17b0 : (t150 == t154) = true := beq_iff_eq.mpr c17
                have c17b1 : (t150 != t154) = false := bne_eq_false_iff_eq.mpr c17
                clear c17
                by_cases c18 : t151 = t155
                · rw [if_pos c18] at H
                  have c18b0 : (t151 == t155) = true := beq_iff_eq.mpr c18
                  have c18b1 : (t151 != t155) = false := bne_eq_false_iff_eq.mpr c18
                  clear c18
                  by_cases c19 : t150 ≥ 1
                  · rw [if_pos c19] at H
                    have c19b0 : decide (1 ≤ t150) = true := decide_eq_true c19
                    clear c19
                    obtain rfl := Option.some.inj H
                    go_wp2_with (first | ((with_reducible refine gate_callee (f := 11) rfl ?_); refine goesL_ (some 29) rfl rfl Try.func11 (by kernel_rfl) rfl #[.string a0, .int .i64 ((ji10) % (wrap64 ((a0.size : Int) + 1)))] rfl (by (try simp only [List.map_toArray, List.map_cons, List.map_nil]); first | done | (simp only [hji10]; rfl) | rfl | (simp only [List.length_drop, List.length_take]; rfl)) ?_; (with_reducible refine (place_At.calls a0 ((ji10) % (wrap64 ((a0.size : Int) + 1))) t150 t151 _ A12.out).mono ?_); rintro e w20 ⟨rfl, hb⟩; refine ⟨_, rfl, ?_⟩; have n0_ := Aside0.mk (below_step (by repeat (first | (with_reducible first | exact HB.out | apply below_alloc | apply pw_below_drewN | apply below_drew1) | exact HB.out)) hb); clear HB; have HB := n0_; clear n0_; (try clear hb); (try clear hb2); (try clear hk); (try clear hi)) | ((with_reducible refine gate_callee (f := 12) rfl ?_); refine goesL_ (some 36) rfl rfl Try.func12 (by kernel_rfl) rfl #[.string a0, .int .i64 t150, .int .i64 t151] rfl (by (try simp only [List.map_toArray, List.map_cons, List.map_nil]); first | done | rfl | (simp only [List.length_drop, List.length_take]; rfl)) ?_; (with_reducible refine (place_Of.calls kj2 a0 t150 t151 t152 true _ A13.out).mono ?_); rintro e w21 ⟨rfl, hb⟩; refine ⟨_, rfl, ?_⟩; have n0_ := Aside0.mk (below_step (by repeat (first | (with_reducible first | exact HB.out | apply below_alloc | apply pw_below_drewN | apply below_drew1) | exact HB.out)) hb); clear HB; have HB := n0_; clear n0_; (try clear hb); (try clear hb2); (try clear hk); (try clear hi)) | ((with_reducible refine gate_callee (f := 11) rfl ?_); refine goesL_ (some 42) rfl rfl Try.func11 (by kernel_rfl) rfl #[.string a0, .int .i64 t152] rfl (by (try simp only [List.map_toArray, List.map_cons, List.map_nil]); first | done | rfl | (simp only [List.length_drop, List.length_take]; rfl)) ?_; (with_reducible refine (place_At.calls a0 t152 t154 t155 _ A14.out).mono ?_); rintro e w22 ⟨rfl, hb⟩; refine ⟨_, rfl, ?_⟩; have n0_ := Aside0.mk (below_step (by repeat (first | (with_reducible first | exact HB.out | apply below_alloc | apply pw_below_drewN | apply below_drew1) | exact HB.out)) hb); clear HB; have HB := n0_; clear n0_; (try clear hb); (try clear hb2); (try clear hk); (try clear hi)))
                    go_ret
                    exact ⟨by first | rfl | (simp [errW_none, errW_some] <;> rfl) | (simp only [← hji10]; first | rfl | (simp [errW_none, errW_some] <;> rfl)) | (simp [*, errW_none, errW_some] <;> rfl), by repeat (first | (with_reducible first | exact HB.out | apply below_alloc | apply pw_below_drewN | apply below_drew1) | exact HB.out)⟩
                  · rw [if_neg c19] at H
                    have c19b0 : decide (1 ≤ t150) = false := decide_eq_false c19
                    clear c19
                    obtain rfl := Option.some.inj H
                    go_wp2_with (first | ((with_reducible refine gate_callee (f := 11) rfl ?_); refine goesL_ (some 29) rfl rfl Try.func11 (by kernel_rfl) rfl #[.string a0, .int .i64 ((ji10) % (wrap64 ((a0.size : Int) + 1)))] rfl (by (try simp only [List.map_toArray, List.map_cons, List.map_nil]); first | done | (simp only [hji10]; rfl) | rfl | (simp only [List.length_drop, List.length_take]; rfl)) ?_; (with_reducible refine (place_At.calls a0 ((ji10) % (wrap64 ((a0.size : Int) + 1))) t150 t151 _ A12.out).mono ?_); rintro e w23 ⟨rfl, hb⟩; refine ⟨_, rfl, ?_⟩; have n0_ := Aside0.mk (below_step (by repeat (first | (with_reducible first | exact HB.out | apply below_alloc | apply pw_below_drewN | apply below_drew1) | exact HB.out)) hb); clear HB; have HB := n0_; clear n0_; (try clear hb); (try clear hb2); (try clear hk); (try clear hi)) | ((with_reducible refine gate_callee (f := 12) rfl ?_); refine goesL_ (some 36) rfl rfl Try.func12 (by kernel_rfl) rfl #[.string a0, .int .i64 t150, .int .i64 t151] rfl (by (try simp only [List.map_toArray, List.map_cons, List.map_nil]); first | done | rfl | (simp only [List.length_drop, List.length_take]; rfl)) ?_; (with_reducible refine (place_Of.calls kj2 a0 t150 t151 t152 true _ A13.out).mono ?_); rintro e w24 ⟨rfl, hb⟩; refine ⟨_, rfl, ?_⟩; have n0_ := Aside0.mk (below_step (by repeat (first | (with_reducible first | exact HB.out | apply below_alloc | apply pw_below_drewN | apply below_drew1) | exact HB.out)) hb); clear HB; have HB := n0_; clear n0_; (try clear hb); (try clear hb2); (try clear hk); (try clear hi)) | ((with_reducible refine gate_callee (f := 11) rfl ?_); refine goesL_ (some 42) rfl rfl Try.func11 (by kernel_rfl) rfl #[.string a0, .int .i64 t152] rfl (by (try simp only [List.map_toArray, List.map_cons, List.map_nil]); first | done | rfl | (simp only [List.length_drop, List.length_take]; rfl)) ?_; (with_reducible refine (place_At.calls a0 t152 t154 t155 _ A14.out).mono ?_); rintro e w25 ⟨rfl, hb⟩; refine ⟨_, rfl, ?_⟩; have n0_ := Aside0.mk (below_step (by repeat (first | (with_reducible first | exact HB.out | apply below_alloc | apply pw_below_drewN | apply below_drew1) | exact HB.out)) hb); clear HB; have HB := n0_; clear n0_; (try clear hb); (try clear hb2); (try clear hk); (try clear hi)))
                    go_ret
                    exact ⟨by first | rfl | (simp [errW_none, errW_some] <;> rfl) | (simp only [← hji10]; first | rfl | (simp [errW_none, errW_some] <;> rfl)) | (simp [*, errW_none, errW_some] <;> rfl), by repeat (first | (with_reducible first | exact HB.out | apply below_alloc | apply pw_below_drewN | apply below_drew1) | exact HB.out)⟩
                · rw [if_neg c18] at H
                  have c18b0 : (t151 == t155) = false := beq_eq_false_iff_ne.mpr c18
                  have c18b1 : (t151 != t155) = true := bne_iff_ne.mpr c18
                  obtain rfl := Option.some.inj H
                  go_wp2_with (first | ((with_reducible refine gate_callee (f := 11) rfl ?_); refine goesL_ (some 29) rfl rfl Try.func11 (by kernel_rfl) rfl #[.string a0, .int .i64 ((ji10) % (wrap64 ((a0.size : Int) + 1)))] rfl (by (try simp only [List.map_toArray, List.map_cons, List.map_nil]); first | done | (simp only [hji10]; rfl) | rfl | (simp only [List.length_drop, List.length_take]; rfl)) ?_; (with_reducible refine (place_At.calls a0 ((ji10) % (wrap64 ((a0.size : Int) + 1))) t150 t151 _ A12.out).mono ?_); rintro e w26 ⟨rfl, hb⟩; refine ⟨_, rfl, ?_⟩; have n0_ := Aside0.mk (below_step (by repeat (first | (with_reducible first | exact HB.out | apply below_alloc | apply pw_below_drewN | apply below_drew1) | exact HB.out)) hb); clear HB; have HB := n0_; clear n0_; (try clear hb); (try clear hb2); (try clear hk); (try clear hi)) | ((with_reducible refine gate_callee (f := 12) rfl ?_); refine goesL_ (some 36) rfl rfl Try.func12 (by kernel_rfl) rfl #[.string a0, .int .i64 t150, .int .i64 t151] rfl (by (try simp only [List.map_toArray, List.map_cons, List.map_nil]); first | done | rfl | (simp only [List.length_drop, List.length_take]; rfl)) ?_; (with_reducible refine (place_Of.calls kj2 a0 t150 t151 t152 true _ A13.out).mono ?_); rintro e w27 ⟨rfl, hb⟩; refine ⟨_, rfl, ?_⟩; have n0_ := Aside0.mk (below_step (by repeat (first | (with_reducible first | exact HB.out | apply below_alloc | apply pw_below_drewN | apply below_drew1) | exact HB.out)) hb); clear HB; have HB := n0_; clear n0_; (try clear hb); (try clear hb2); (try clear hk); (try clear hi)) | ((with_reducible refine gate_callee (f := 11) rfl ?_); refine goesL_ (some 42) rfl rfl Try.func11 (by kernel_rfl) rfl #[.string a0, .int .i64 t152] rfl (by (try simp only [List.map_toArray, List.map_cons, List.map_nil]); first | done | rfl | (simp only [List.length_drop, List.length_take]; rfl)) ?_; (with_reducible refine (place_At.calls a0 t152 t154 t155 _ A14.out).mono ?_); rintro e w28 ⟨rfl, hb⟩; refine ⟨_, rfl, ?_⟩; have n0_ := Aside0.mk (below_step (by repeat (first | (with_reducible first | exact HB.out | apply below_alloc | apply pw_below_drewN | apply below_drew1) | exact HB.out)) hb); clear HB; have HB := n0_; clear n0_; (try clear hb); (try clear hb2); (try clear hk); (try clear hi)))
                  go_ret
                  exact ⟨by first | rfl | (simp [errW_none, errW_some] <;> rfl) | (simp only [← hji10]; first | rfl | (simp [errW_none, errW_some] <;> rfl)) | (simp [*, errW_none, errW_some] <;> rfl), by repeat (first | (with_reducible first | exact HB.out | apply below_alloc | apply pw_below_drewN | apply below_drew1) | exact HB.out)⟩
              · rw [if_neg c17] at H
                have c17b0 : (t150 == t154) = false := beq_eq_false_iff_ne.mpr c17
                have c17b1 : (t150 != t154) = true := bne_iff_ne.mpr c17
                obtain rfl := Option.some.inj H
                go_wp2_with (first | ((with_reducible refine gate_callee (f := 11) rfl ?_); refine goesL_ (some 29) rfl rfl Try.func11 (by kernel_rfl) rfl #[.string a0, .int .i64 ((ji10) % (wrap64 ((a0.size : Int) + 1)))] rfl (by (try simp only [List.map_toArray, List.map_cons, List.map_nil]); first | done | (simp only [hji10]; rfl) | rfl | (simp only [List.length_drop, List.length_take]; rfl)) ?_; (with_reducible refine (place_At.calls a0 ((ji10) % (wrap64 ((a0.size : Int) + 1))) t150 t151 _ A12.out).mono ?_); rintro e w29 ⟨rfl, hb⟩; refine ⟨_, rfl, ?_⟩; have n0_ := Aside0.mk (below_step (by repeat (first | (with_reducible first | exact HB.out | apply below_alloc | apply pw_below_drewN | apply below_drew1) | exact HB.out)) hb); clear HB; have HB := n0_; clear n0_; (try clear hb); (try clear hb2); (try clear hk); (try clear hi)) | ((with_reducible refine gate_callee (f := 12) rfl ?_); refine goesL_ (some 36) rfl rfl Try.func12 (by kernel_rfl) rfl #[.string a0, .int .i64 t150, .int .i64 t151] rfl (by (try simp only [List.map_toArray, List.map_cons, List.map_nil]); first | done | rfl | (simp only [List.length_drop, List.length_take]; rfl)) ?_; (with_reducible refine (place_Of.calls kj2 a0 t150 t151 t152 true _ A13.out).mono ?_); rintro e w30 ⟨rfl, hb⟩; refine ⟨_, rfl, ?_⟩; have n0_ := Aside0.mk (below_step (by repeat (first | (with_reducible first | exact HB.out | apply below_alloc | apply pw_below_drewN | apply below_drew1) | exact HB.out)) hb); clear HB; have HB := n0_; clear n0_; (try clear hb); (try clear hb2); (try clear hk); (try clear hi)) | ((with_reducible refine gate_callee (f := 11) rfl ?_); refine goesL_ (some 42) rfl rfl Try.func11 (by kernel_rfl) rfl #[.string a0, .int .i64 t152] rfl (by (try simp only [List.map_toArray, List.map_cons, List.map_nil]); first | done | rfl | (simp only [List.length_drop, List.length_take]; rfl)) ?_; (with_reducible refine (place_At.calls a0 t152 t154 t155 _ A14.out).mono ?_); rintro e w31 ⟨rfl, hb⟩; refine ⟨_, rfl, ?_⟩; have n0_ := Aside0.mk (below_step (by repeat (first | (with_reducible first | exact HB.out | apply below_alloc | apply pw_below_drewN | apply below_drew1) | exact HB.out)) hb); clear HB; have HB := n0_; clear n0_; (try clear hb); (try clear hb2); (try clear hk); (try clear hi)))
                go_ret
                exact ⟨by first | rfl | (simp [errW_none, errW_some] <;> rfl) | (simp only [← hji10]; first | rfl | (simp [errW_none, errW_some] <;> rfl)) | (simp [*, errW_none, errW_some] <;> rfl), by repeat (first | (with_reducible first | exact HB.out | apply below_alloc | apply pw_below_drewN | apply below_drew1) | exact HB.out)⟩
            · rw [if_neg c16] at H
              (try (have c16u : ¬ (t152 ≤ ((ji10) % (((a0.size : Int) + 1)))) := by (have h_ := c16; unfold wrap64 at h_; omega)))
              (try (have c16ub0 : decide (t152 ≤ ((ji10) % (((a0.size : Int) + 1)))) = false := decide_eq_false c16u))
              (try clear c16u)
              have c16b0 : decide (t152 ≤ ((ji10) % (wrap64 ((a0.size : Int) + 1)))) = false := decide_eq_false c16
              clear c16
              obtain rfl := Option.some.inj H
              go_wp2_with (first | ((with_reducible refine gate_callee (f := 11) rfl ?_); refine goesL_ (some 29) rfl rfl Try.func11 (by kernel_rfl) rfl #[.string a0, .int .i64 ((ji10) % (wrap64 ((a0.size : Int) + 1)))] rfl (by (try simp only [List.map_toArray, List.map_cons, List.map_nil]); first | done | (simp only [hji10]; rfl) | rfl | (simp only [List.length_drop, List.length_take]; rfl)) ?_; (with_reducible refine (place_At.calls a0 ((ji10) % (wrap64 ((a0.size : Int) + 1))) t150 t151 _ A12.out).mono ?_); rintro e w32 ⟨rfl, hb⟩; refine ⟨_, rfl, ?_⟩; have n0_ := Aside0.mk (below_step (by repeat (first | (with_reducible first | exact HB.out | apply below_alloc | apply pw_below_drewN | apply below_drew1) | exact HB.out)) hb); clear HB; have HB := n0_; clear n0_; (try clear hb); (try clear hb2); (try clear hk); (try clear hi)) | ((with_reducible refine gate_callee (f := 12) rfl ?_); refine goesL_ (some 36) rfl rfl Try.func12 (by kernel_rfl) rfl #[.string a0, .int .i64 t150, .int .i64 t151] rfl (by (try simp only [List.map_toArray, List.map_cons, List.map_nil]); first | done | rfl | (simp only [List.length_drop, List.length_take]; rfl)) ?_; (with_reducible refine (place_Of.calls kj2 a0 t150 t151 t152 true _ A13.out).mono ?_); rintro e w33 ⟨rfl, hb⟩; refine ⟨_, rfl, ?_⟩; have n0_ := Aside0.mk (below_step (by repeat (first | (with_reducible first | exact HB.out | apply below_alloc | apply pw_below_drewN | apply below_drew1) | exact HB.out)) hb); clear HB; have HB := n0_; clear n0_; (try clear hb); (try clear hb2); (try clear hk); (try clear hi)) | ((with_reducible refine gate_callee (f := 11) rfl ?_); refine goesL_ (some 42) rfl rfl Try.func11 (by kernel_rfl) rfl #[.string a0, .int .i64 t152] rfl (by (try simp only [List.map_toArray, List.map_cons, List.map_nil]); first | done | rfl | (simp only [List.length_drop, List.length_take]; rfl)) ?_; (with_reducible refine (place_At.calls a0 t152 t154 t155 _ A14.out).mono ?_); rintro e w34 ⟨rfl, hb⟩; refine ⟨_, rfl, ?_⟩; have n0_ := Aside0.mk (below_step (by repeat (first | (with_reducible first | exact HB.out | apply below_alloc | apply pw_below_drewN | apply below_drew1) | exact HB.out)) hb); clear HB; have HB := n0_; clear n0_; (try clear hb); (try clear hb2); (try clear hk); (try clear hi)))
              go_ret
              exact ⟨by first | rfl | (simp [errW_none, errW_some] <;> rfl) | (simp only [← hji10]; first | rfl | (simp [errW_none, errW_some] <;> rfl)) | (simp [*, errW_none, errW_some] <;> rfl), by repeat (first | (with_reducible first | exact HB.out | apply below_alloc | apply pw_below_drewN | apply below_drew1) | exact HB.out)⟩
          · replace c15 := Bool.eq_false_iff.mpr c15
            subst c15
            have H1 : (some false) = some r := by rw [if_neg (show ¬ (false = true) by decide)] at H; exact H
            clear H
            have H := H1
            clear H1
            obtain rfl := Option.some.inj H
            go_wp2_with (first | ((with_reducible refine gate_callee (f := 11) rfl ?_); refine goesL_ (some 29) rfl rfl Try.func11 (by kernel_rfl) rfl #[.string a0, .int .i64 ((ji10) % (wrap64 ((a0.size : Int) + 1)))] rfl (by (try simp only [List.map_toArray, List.map_cons, List.map_nil]); first | done | (simp only [hji10]; rfl) | rfl | (simp only [List.length_drop, List.length_take]; rfl)) ?_; (with_reducible refine (place_At.calls a0 ((ji10) % (wrap64 ((a0.size : Int) + 1))) t150 t151 _ A12.out).mono ?_); rintro e w35 ⟨rfl, hb⟩; refine ⟨_, rfl, ?_⟩; have n0_ := Aside0.mk (below_step (by repeat (first | (with_reducible first | exact HB.out | apply below_alloc | apply pw_below_drewN | apply below_drew1) | exact HB.out)) hb); clear HB; have HB := n0_; clear n0_; (try clear hb); (try clear hb2); (try clear hk); (try clear hi)) | ((with_reducible refine gate_callee (f := 12) rfl ?_); refine goesL_ (some 36) rfl rfl Try.func12 (by kernel_rfl) rfl #[.string a0, .int .i64 t150, .int .i64 t151] rfl (by (try simp only [List.map_toArray, List.map_cons, List.map_nil]); first | done | rfl | (simp only [List.length_drop, List.length_take]; rfl)) ?_; (with_reducible refine (place_Of.calls kj2 a0 t150 t151 t152 false _ A13.out).mono ?_); rintro e w36 ⟨rfl, hb⟩; refine ⟨_, rfl, ?_⟩; have n0_ := Aside0.mk (below_step (by repeat (first | (with_reducible first | exact HB.out | apply below_alloc | apply pw_below_drewN | apply below_drew1) | exact HB.out)) hb); clear HB; have HB := n0_; clear n0_; (try clear hb); (try clear hb2); (try clear hk); (try clear hi)) | ((with_reducible refine gate_callee (f := 11) rfl ?_); refine goesL_ (some 42) rfl rfl Try.func11 (by kernel_rfl) rfl #[.string a0, .int .i64 t152] rfl (by (try simp only [List.map_toArray, List.map_cons, List.map_nil]); first | done | rfl | (simp only [List.length_drop, List.length_take]; rfl)) ?_; (with_reducible refine (place_At.calls a0 t152 t154 t155 _ A14.out).mono ?_); rintro e w37 ⟨rfl, hb⟩; refine ⟨_, rfl, ?_⟩; have n0_ := Aside0.mk (below_step (by repeat (first | (with_reducible first | exact HB.out | apply below_alloc | apply pw_below_drewN | apply below_drew1) | exact HB.out)) hb); clear HB; have HB := n0_; clear n0_; (try clear hb); (try clear hb2); (try clear hk); (try clear hi)))
            go_ret
            exact ⟨by first | rfl | (simp [errW_none, errW_some] <;> rfl) | (simp only [← hji10]; first | rfl | (simp [errW_none, errW_some] <;> rfl)) | (simp [*, errW_none, errW_some] <;> rfl), by repeat (first | (with_reducible first | exact HB.out | apply below_alloc | apply pw_below_drewN | apply below_drew1) | exact HB.out)⟩

/-- THE ONE PURE STATEMENT of portierelaw02_PlaceBack: yours. -/
def portierelaw02_PlaceBack.Pure : Prop := ∀ (a0 : ByteArray) (a1 : Int), a0.size ≤ 140737488351232 → (Lit.int .i64 a1).wf = true → ∃ k, portierelaw02_PlaceBack.f k a0 a1 = some true
theorem portierelaw02_PlaceBack.walk (P : portierelaw02_PlaceBack.Pure) (a0 : ByteArray) (a1 : Int) (w : World) (w0 : a0.size ≤ 140737488351232) (w1 : (Lit.int .i64 a1).wf = true) :
    Calls Try.prog 7 #[.string a0, .int .i64 a1] w fun e w' => e = .returned (.bool true) ∧ Below w.heap.size w w' := by
  obtain ⟨k, h⟩ := P a0 a1 w0 w1
  refine (portierelaw02_PlaceBack.calls k a0 a1 true w h).mono ?_
  rintro e w' ⟨rfl, hd⟩
  exact ⟨rfl, hd⟩

/-! ### portierelaw02_PlaceLines: function 8 -/
def portierelaw02_PlaceLines.j0 : Nat → ByteArray → Int → Bool → Option (Bool)
  | 0, _, _, _ => none
  | k + 1, x0, x1, x21 => if x21 = true then ((portierelaw02_known.f k).bind fun t157 => (some t157)) else (if (x0.size : Int) = 0 then (none) else ((place_At.f x0 ((mx x1 0) % (x0.size : Int))).bind fun bt158 => ((place_At.f x0 (wrap64 (((mx x1 0) % (x0.size : Int)) + 1))).bind fun bt160 => (if 0 ≤ ((mx x1 0) % (x0.size : Int)) then (if ((mx x1 0) % (x0.size : Int)) < (x0.size : Int) then (if (bt x0 ((mx x1 0) % (x0.size : Int))) = 10 then (if bt160.1 = (wrap64 (bt158.1 + 1)) then (some (bt160.2 == 1)) else (some false)) else (if (bt x0 ((mx x1 0) % (x0.size : Int))) ≥ 128 then (if (bt x0 ((mx x1 0) % (x0.size : Int))) ≤ 191 then (if bt160.1 = bt158.1 then (some (bt160.2 == bt158.2)) else (some false)) else (if bt160.1 = bt158.1 then (some (bt160.2 == (wrap64 (bt158.2 + 1)))) else (some false))) else (if bt160.1 = bt158.1 then (some (bt160.2 == (wrap64 (bt158.2 + 1)))) else (some false)))) else (none)) else (none)))))
def portierelaw02_PlaceLines.f (k : Nat) (a0 : ByteArray) (a1 : Int) : Option (Bool) := if (a0.size : Int) > 2000 then (portierelaw02_PlaceLines.j0 k a0 a1 true) else (if (a0.size : Int) = 0 then (portierelaw02_PlaceLines.j0 k a0 a1 true) else ((portierelaw02_known.f k).bind fun t156 => (portierelaw02_PlaceLines.j0 k a0 a1 (!t156))))
theorem portierelaw02_PlaceLines.mono_l : ∀ k, (∀ y0 y1 y2, LeO (portierelaw02_PlaceLines.j0 k y0 y1 y2) (portierelaw02_PlaceLines.j0 (k + 1) y0 y1 y2))
  | 0 => fun _ _ _ r h => by simp [portierelaw02_PlaceLines.j0] at h
  | k + 1 => by
    have ih0 := portierelaw02_PlaceLines.mono_l k
    · intro y0 y1 y2
      unfold portierelaw02_PlaceLines.j0
      repeat' first
      | (with_reducible exact ih0 _ _ _)
      | (with_reducible exact portierelaw02_known.mono _)
      | (with_reducible exact LeO.refl _)
      | (with_reducible exact LeO.none _)
      | (with_reducible refine LeO.ite ?_ ?_)
      | (with_reducible refine LeO.bind ?_ (fun _ => ?_))
      | exact ih0 _ _ _
      | exact portierelaw02_known.mono _
      | exact LeO.none _
      | refine LeO.ite ?_ ?_
      | refine LeO.bind ?_ (fun _ => ?_)
theorem portierelaw02_PlaceLines.mono : ∀ a0 a1 k, LeO (portierelaw02_PlaceLines.f k a0 a1) (portierelaw02_PlaceLines.f (k + 1) a0 a1) := by
  intro a0 a1 k
  have ih0 := portierelaw02_PlaceLines.mono_l k
  unfold portierelaw02_PlaceLines.f
  repeat' first
      | (with_reducible exact ih0 _ _ _)
      | (with_reducible exact portierelaw02_known.mono _)
      | (with_reducible exact LeO.refl _)
      | (with_reducible exact LeO.none _)
      | (with_reducible refine LeO.ite ?_ ?_)
      | (with_reducible refine LeO.bind ?_ (fun _ => ?_))
      | exact ih0 _ _ _
      | exact portierelaw02_known.mono _
      | exact LeO.none _
      | refine LeO.ite ?_ ?_
      | refine LeO.bind ?_ (fun _ => ?_)
set_option maxHeartbeats 8000000 in
set_option maxRecDepth 100000 in
theorem portierelaw02_PlaceLines.calls (k : Nat) (a0 : ByteArray) (a1 : Int) (r : Bool) (w : World) (h : portierelaw02_PlaceLines.f k a0 a1 = some r) :
    Calls Try.prog 8 #[.string a0, .int .i64 a1] w fun e w' => e = .returned (.bool r) ∧ Below w.heap.size w w' := by
  have HB := Aside0.mk (Below.refl w.heap.size w)
  have H : (if (a0.size : Int) > 2000 then (portierelaw02_PlaceLines.j0 k a0 a1 true) else (if (a0.size : Int) = 0 then (portierelaw02_PlaceLines.j0 k a0 a1 true) else ((portierelaw02_known.f k).bind fun t156 => (portierelaw02_PlaceLines.j0 k a0 a1 (!t156))))) = some r := h
  clear h
  have HC3 := Aside0.mk H
  clear H
  go_enter Try.func8, Try.ntmps8
  go_upto_region 1 with (fail)
  go_cut [21] (fun v21 wc => ∃ (kq : Nat) (x21_2 : Bool), v21 = .bool x21_2 ∧ Aside0 (portierelaw02_PlaceLines.j0 kq a0 a1 x21_2 = some r) ∧ Aside0 (kq ≤ k) ∧ Aside0 (Below w.heap.size w wc))
  case first =>
    have H := HC3.out
    clear HC3
    by_cases c4 : (a0.size : Int) > 2000
    · rw [if_pos c4] at H
      have c4b0 : decide (2000 < (a0.size : Int)) = true := decide_eq_true c4
      have c4b1 : decide (2000 < a0.size) = true := decide_eq_true (by omega)
      clear c4
      (first | rw [c4b0] | (simp only [i64_w, i32_w]; rw [c4b0]) | skip)
      have H' := Aside0.mk H
      clear H
      go_wp2
      go_meet
      case rel => exact ⟨_, (true), (by first | rfl | (simp; done) | (simp [*]; done)), H', ⟨by first | omega | exact Nat.le_refl _⟩, ⟨by repeat (first | (with_reducible first | exact HB.out | apply below_alloc | apply pw_below_drewN | apply below_drew1) | exact HB.out)⟩⟩
    · rw [if_neg c4] at H
      have c4b0 : decide (2000 < (a0.size : Int)) = false := decide_eq_false c4
      have c4b1 : decide (2000 < a0.size) = false := decide_eq_false (by omega)
      clear c4
      (first | rw [c4b0] | (simp only [i64_w, i32_w]; rw [c4b0]) | skip)
      by_cases c5 : (a0.size : Int) = 0
      · rw [if_pos c5] at H
        have c5b0 : ((a0.size : Int) == 0) = true := beq_iff_eq.mpr c5
        have c5b1 : ((a0.size : Int) != 0) = false := bne_eq_false_iff_eq.mpr c5
        clear c5
        have H' := Aside0.mk H
        clear H
        go_wp2
        go_meet
        case rel => exact ⟨_, (true), (by first | rfl | (simp; done) | (simp [*]; done)), H', ⟨by first | omega | exact Nat.le_refl _⟩, ⟨by repeat (first | (with_reducible first | exact HB.out | apply below_alloc | apply pw_below_drewN | apply below_drew1) | exact HB.out)⟩⟩
      · rw [if_neg c5] at H
        have c5b0 : ((a0.size : Int) == 0) = false := beq_eq_false_iff_ne.mpr c5
        have c5b1 : ((a0.size : Int) != 0) = true := bne_iff_ne.mpr c5
        replace H := Option.bind_eq_some_iff.mp H
        obtain ⟨t156, A60, H⟩ := H
        replace H : (portierelaw02_PlaceLines.j0 k a0 a1 (!t156)) = some r := H
        have A6 := Aside0.mk A60
        clear A60
        have H' := Aside0.mk H
        clear H
        go_wp2_with (first | (go_at_call 10; (with_reducible refine (portierelaw02_known.calls k  t156 _ A6.out).mono ?_); rintro e w7 ⟨rfl, hb⟩; have n0_ := Aside0.mk (below_step (by repeat (first | (with_reducible first | exact HB.out | apply below_alloc | apply pw_below_drewN | apply below_drew1) | exact HB.out)) hb); clear HB; have HB := n0_; clear n0_; (try clear hb); (try clear hb2); (try clear hk); (try clear hi)))
        go_meet
        case rel => exact ⟨_, (!t156), (by first | rfl | (simp; done) | (simp [*]; done)), H', ⟨by first | omega | exact Nat.le_refl _⟩, ⟨by repeat (first | (with_reducible first | exact HB.out | apply below_alloc | apply pw_below_drewN | apply below_drew1) | exact HB.out)⟩⟩
  case rest =>
    clear HC3
    try clear p2
    try clear c4
    try clear c4b0
    try clear c4b1
    try clear c5
    try clear c5b0
    try clear c5b1
    obtain ⟨kq, x21_2, rfl, HA, HJ2, HB⟩ := hcut
    cases kq with
    | zero => exact absurd HA.out (by simp [portierelaw02_PlaceLines.j0])
    | succ kj2 =>
      have H := HA.out
      clear HA
      simp only [portierelaw02_PlaceLines.j0] at H
      by_cases c8 : x21_2 = true
      · subst c8
        have H1 : ((portierelaw02_known.f kj2).bind fun t157 => (some t157)) = some r := by rw [if_pos rfl] at H; exact H
        clear H
        have H := H1
        clear H1
        replace H := Option.bind_eq_some_iff.mp H
        obtain ⟨t157, A90, H⟩ := H
        replace H : (some t157) = some r := H
        have A9 := Aside0.mk A90
        clear A90
        obtain rfl := Option.some.inj H
        go_wp2_with (first | ((with_reducible refine gate_callee (f := 10) rfl ?_); refine goesL_ (some 22) rfl rfl Try.func10 (by kernel_rfl) rfl #[] rfl (by (try simp only [List.map_toArray, List.map_cons, List.map_nil]); first | done | rfl | (simp only [List.length_drop, List.length_take]; rfl)) ?_; (with_reducible refine (portierelaw02_known.calls kj2  t157 _ A9.out).mono ?_); rintro e w10 ⟨rfl, hb⟩; refine ⟨_, rfl, ?_⟩; have n0_ := Aside0.mk (below_step (by repeat (first | (with_reducible first | exact HB.out | apply below_alloc | apply pw_below_drewN | apply below_drew1) | exact HB.out)) hb); clear HB; have HB := n0_; clear n0_; (try clear hb); (try clear hb2); (try clear hk); (try clear hi)))
        go_ret
        exact ⟨by first | rfl | (simp [errW_none, errW_some] <;> rfl) | (simp [*, errW_none, errW_some] <;> rfl), by repeat (first | (with_reducible first | exact HB.out | apply below_alloc | apply pw_below_drewN | apply below_drew1) | exact HB.out)⟩
      · replace c8 := Bool.eq_false_iff.mpr c8
        subst c8
        have H1 : (if (a0.size : Int) = 0 then (none) else ((place_At.f a0 ((mx a1 0) % (a0.size : Int))).bind fun bt158 => ((place_At.f a0 (wrap64 (((mx a1 0) % (a0.size : Int)) + 1))).bind fun bt160 => (if 0 ≤ ((mx a1 0) % (a0.size : Int)) then (if ((mx a1 0) % (a0.size : Int)) < (a0.size : Int) then (if (bt a0 ((mx a1 0) % (a0.size : Int))) = 10 then (if bt160.1 = (wrap64 (bt158.1 + 1)) then (some (bt160.2 == 1)) else (some false)) else (if (bt a0 ((mx a1 0) % (a0.size : Int))) ≥ 128 then (if (bt a0 ((mx a1 0) % (a0.size : Int))) ≤ 191 then (if bt160.1 = bt158.1 then (some (bt160.2 == bt158.2)) else (some false)) else (if bt160.1 = bt158.1 then (some (bt160.2 == (wrap64 (bt158.2 + 1)))) else (some false))) else (if bt160.1 = bt158.1 then (some (bt160.2 == (wrap64 (bt158.2 + 1)))) else (some false)))) else (none)) else (none))))) = some r := by rw [if_neg (show ¬ (false = true) by decide)] at H; exact H
        clear H
        have H := H1
        clear H1
        obtain ⟨ji11, hji11⟩ : ∃ j_ : Int, (mx a1 0) = j_ := ⟨_, rfl⟩
        replace H : (if (a0.size : Int) = 0 then (none) else ((place_At.f a0 ((ji11) % (a0.size : Int))).bind fun bt158 => ((place_At.f a0 (wrap64 (((ji11) % (a0.size : Int)) + 1))).bind fun bt160 => (if 0 ≤ ((ji11) % (a0.size : Int)) then (if ((ji11) % (a0.size : Int)) < (a0.size : Int) then (if (bt a0 ((ji11) % (a0.size : Int))) = 10 then (if bt160.1 = (wrap64 (bt158.1 + 1)) then (some (bt160.2 == 1)) else (some false)) else (if (bt a0 ((ji11) % (a0.size : Int))) ≥ 128 then (if (bt a0 ((ji11) % (a0.size : Int))) ≤ 191 then (if bt160.1 = bt158.1 then (some (bt160.2 == bt158.2)) else (some false)) else (if bt160.1 = bt158.1 then (some (bt160.2 == (wrap64 (bt158.2 + 1)))) else (some false))) else (if bt160.1 = bt158.1 then (some (bt160.2 == (wrap64 (bt158.2 + 1)))) else (some false)))) else (none)) else (none))))) = some r := by first | (rw [hji11] at H; exact H) | (simp only [hji11] at H ⊢; exact H)
        have hji11_ : (if a1 < 0 then 0 else a1) = ji11 := hji11
        by_cases c12 : (a0.size : Int) = 0
        · rw [if_pos c12] at H
          exact absurd H (by simp)
        · rw [if_neg c12] at H
          have c12b0 : ((a0.size : Int) == 0) = false := beq_eq_false_iff_ne.mpr c12
          have c12b1 : ((a0.size : Int) != 0) = true := bne_iff_ne.mpr c12
          replace H := Option.bind_eq_some_iff.mp H
          obtain ⟨⟨t158, t159⟩, A130, H⟩ := H
          replace H : ((place_At.f a0 (wrap64 (((ji11) % (a0.size : Int)) + 1))).bind fun bt160 => (if 0 ≤ ((ji11) % (a0.size : Int)) then (if ((ji11) % (a0.size : Int)) < (a0.size : Int) then (if (bt a0 ((ji11) % (a0.size : Int))) = 10 then (if bt160.1 = (wrap64 (t158 + 1)) then (some (bt160.2 == 1)) else (some false)) else (if (bt a0 ((ji11) % (a0.size : Int))) ≥ 128 then (if (bt a0 ((ji11) % (a0.size : Int))) ≤ 191 then (if bt160.1 = t158 then (some (bt160.2 == t159)) else (some false)) else (if bt160.1 = t158 then (some (bt160.2 == (wrap64 (t159 + 1)))) else (some false))) else (if bt160.1 = t158 then (some (bt160.2 == (wrap64 (t159 + 1)))) else (some false)))) else (none)) else (none))) = some r := H
          have A13 := Aside0.mk A130
          clear A130
          replace H := Option.bind_eq_some_iff.mp H
          obtain ⟨⟨t160, t161⟩, A140, H⟩ := H
          replace H : (if 0 ≤ ((ji11) % (a0.size : Int)) then (if ((ji11) % (a0.size : Int)) < (a0.size : Int) then (if (bt a0 ((ji11) % (a0.size : Int))) = 10 then (if t160 = (wrap64 (t158 + 1)) then (some (t161 == 1)) else (some false)) else (if (bt a0 ((ji11) % (a0.size : Int))) ≥ 128 then (if (bt a0 ((ji11) % (a0.size : Int))) ≤ 191 then (if t160 = t158 then (some (t161 == t159)) else (some false)) else (if t160 = t158 then (some (t161 == (wrap64 (t159 + 1)))) else (some false))) else (if t160 = t158 then (some (t161 == (wrap64 (t159 + 1)))) else (some false)))) else (none)) else (none)) = some r := H
          have A14 := Aside0.mk A140
          clear A140
          obtain ⟨ji15, hji15⟩ : ∃ j_ : Int, ((ji11) % (a0.size : Int)) = j_ := ⟨_, rfl⟩
          replace H : (if 0 ≤ (ji15) then (if (ji15) < (a0.size : Int) then (if (bt a0 (ji15)) = 10 then (if t160 = (wrap64 (t158 + 1)) then (some (t161 == 1)) else (some false)) else (if (bt a0 (ji15)) ≥ 128 then (if (bt a0 (ji15)) ≤ 191 then (if t160 = t158 then (some (t161 == t159)) else (some false)) else (if t160 = t158 then (some (t161 == (wrap64 (t159 + 1)))) else (some false))) else (if t160 = t158 then (some (t161 == (wrap64 (t159 + 1)))) else (some false)))) else (none)) else (none)) = some r := by first | (rw [hji15] at H; exact H) | (simp only [hji15] at H ⊢; exact H)
          (try rw [hji15] at A13)
          (try rw [hji15] at A14)
          by_cases c16 : 0 ≤ (ji15)
          · rw [if_pos c16] at H
            have c16b0 : decide (0 ≤ (ji15)) = true := decide_eq_true c16
            clear c16
            by_cases c17 : (ji15) < (a0.size : Int)
            · rw [if_pos c17] at H
              have c17b0 : decide ((ji15) < (a0.size : Int)) = true := decide_eq_true c17
              clear c17
              by_cases c19 : (bt a0 (ji15)) = 10
              · rw [if_pos c19] at H
                have c19b0 : ((bt a0 (ji15)) == 10) = true := beq_iff_eq.mpr c19
                have c19b1 : ((bt a0 (ji15)) != 10) = false := bne_eq_false_iff_eq.mpr c19
                clear c19
                by_cases c20 : t160 = (wrap64 (t158 + 1))
                · rw [if_pos c20] at H
                  (try (have c20u : (t160 = ((t158 + 1))) := by (have h_ := c20; unfold wrap64 at h_; omega)))
                  (try (have c20ub0 : (t160 == ((t158 + 1))) = true := beq_iff_eq.mpr c20u))
                  (try (have c20ub1 : (t160 != ((t158 + 1))) = false := bne_eq_false_iff_eq.mpr c20u))
                  (try clear c20u)
                  have c20b0 : (t160 == (wrap64 (t158 + 1))) = true := beq_iff_eq.mpr c20
                  have c20b1 : (t160 != (wrap64 (t158 + 1))) = false := bne_eq_false_iff_eq.mpr c20
                  clear c20
                  obtain rfl := Option.some.inj H
                  go_wp2_with (first | ((with_reducible refine gate_callee (f := 11) rfl ?_); refine goesL_ (some 31) rfl rfl Try.func11 (by kernel_rfl) rfl #[.string a0, .int .i64 ji15] rfl (by (try simp only [List.map_toArray, List.map_cons, List.map_nil]); first | done | (simp only [hji15]; rfl) | rfl | (simp only [List.length_drop, List.length_take]; rfl)) ?_; (with_reducible refine (place_At.calls a0 ji15 t158 t159 _ A13.out).mono ?_); rintro e w21 ⟨rfl, hb⟩; refine ⟨_, rfl, ?_⟩; have n0_ := Aside0.mk (below_step (by repeat (first | (with_reducible first | exact HB.out | apply below_alloc | apply pw_below_drewN | apply below_drew1) | exact HB.out)) hb); clear HB; have HB := n0_; clear n0_; (try clear hb); (try clear hb2); (try clear hk); (try clear hi)) | ((with_reducible refine gate_callee (f := 11) rfl ?_); refine goesL_ (some 38) rfl rfl Try.func11 (by kernel_rfl) rfl #[.string a0, .int .i64 (wrap64 ((ji15) + 1))] rfl (by (try simp only [List.map_toArray, List.map_cons, List.map_nil]); first | done | (simp only [hji15]; rfl) | rfl | (simp only [List.length_drop, List.length_take]; rfl)) ?_; (with_reducible refine (place_At.calls a0 (wrap64 ((ji15) + 1)) t160 t161 _ A14.out).mono ?_); rintro e w22 ⟨rfl, hb⟩; refine ⟨_, rfl, ?_⟩; have n0_ := Aside0.mk (below_step (by repeat (first | (with_reducible first | exact HB.out | apply below_alloc | apply pw_below_drewN | apply below_drew1) | exact HB.out)) hb); clear HB; have HB := n0_; clear n0_; (try clear hb); (try clear hb2); (try clear hk); (try clear hi); have p18 : 0 ≤ ((ji15) : Int) := of_decide_eq_true (by first | (with_reducible assumption) | assumption); have q18 : (ji15) < (a0.size : Int) := of_decide_eq_true (by first | (with_reducible assumption) | assumption); have hx18 := bt_at a0 (ji15); replace p18 := eq_true p18; replace q18 := eq_true q18))
                  go_ret
                  exact ⟨by first | rfl | (simp [errW_none, errW_some] <;> rfl) | (simp only [← hji11, ← hji15]; first | rfl | (simp [errW_none, errW_some] <;> rfl)) | (simp [*, errW_none, errW_some] <;> rfl), by repeat (first | (with_reducible first | exact HB.out | apply below_alloc | apply pw_below_drewN | apply below_drew1) | exact HB.out)⟩
                · rw [if_neg c20] at H
                  (try (have c20u : ¬ (t160 = ((t158 + 1))) := by (have h_ := c20; unfold wrap64 at h_; omega)))
                  (try (have c20ub0 : (t160 == ((t158 + 1))) = false := beq_eq_false_iff_ne.mpr c20u))
                  (try (have c20ub1 : (t160 != ((t158 + 1))) = true := bne_iff_ne.mpr c20u))
                  have c20b0 : (t160 == (wrap64 (t158 + 1))) = false := beq_eq_false_iff_ne.mpr c20
                  have c20b1 : (t160 != (wrap64 (t158 + 1))) = true := bne_iff_ne.mpr c20
                  obtain rfl := Option.some.inj H
                  go_wp2_with (first | ((with_reducible refine gate_callee (f := 11) rfl ?_); refine goesL_ (some 31) rfl rfl Try.func11 (by kernel_rfl) rfl #[.string a0, .int .i64 ji15] rfl (by (try simp only [List.map_toArray, List.map_cons, List.map_nil]); first | done | (simp only [hji15]; rfl) | rfl | (simp only [List.length_drop, List.length_take]; rfl)) ?_; (with_reducible refine (place_At.calls a0 ji15 t158 t159 _ A13.out).mono ?_); rintro e w23 ⟨rfl, hb⟩; refine ⟨_, rfl, ?_⟩; have n0_ := Aside0.mk (below_step (by repeat (first | (with_reducible first | exact HB.out | apply below_alloc | apply pw_below_drewN | apply below_drew1) | exact HB.out)) hb); clear HB; have HB := n0_; clear n0_; (try clear hb); (try clear hb2); (try clear hk); (try clear hi)) | ((with_reducible refine gate_callee (f := 11) rfl ?_); refine goesL_ (some 38) rfl rfl Try.func11 (by kernel_rfl) rfl #[.string a0, .int .i64 (wrap64 ((ji15) + 1))] rfl (by (try simp only [List.map_toArray, List.map_cons, List.map_nil]); first | done | (simp only [hji15]; rfl) | rfl | (simp only [List.length_drop, List.length_take]; rfl)) ?_; (with_reducible refine (place_At.calls a0 (wrap64 ((ji15) + 1)) t160 t161 _ A14.out).mono ?_); rintro e w24 ⟨rfl, hb⟩; refine ⟨_, rfl, ?_⟩; have n0_ := Aside0.mk (below_step (by repeat (first | (with_reducible first | exact HB.out | apply below_alloc | apply pw_below_drewN | apply below_drew1) | exact HB.out)) hb); clear HB; have HB := n0_; clear n0_; (try clear hb); (try clear hb2); (try clear hk); (try clear hi); have p18 : 0 ≤ ((ji15) : Int) := of_decide_eq_true (by first | (with_reducible assumption) | assumption); have q18 : (ji15) < (a0.size : Int) := of_decide_eq_true (by first | (with_reducible assumption) | assumption); have hx18 := bt_at a0 (ji15); replace p18 := eq_true p18; replace q18 := eq_true q18))
                  go_ret
                  exact ⟨by first | rfl | (simp [errW_none, errW_some] <;> rfl) | (simp only [← hji11, ← hji15]; first | rfl | (simp [errW_none, errW_some] <;> rfl)) | (simp [*, errW_none, errW_some] <;> rfl), by repeat (first | (with_reducible first | exact HB.out | apply below_alloc | apply pw_below_drewN | apply below_drew1) | exact HB.out)⟩
              · rw [if_neg c19] at H
                have c19b0 : ((bt a0 (ji15)) == 10) = false := beq_eq_false_iff_ne.mpr c19
                have c19b1 : ((bt a0 (ji15)) != 10) = true := bne_iff_ne.mpr c19
                by_cases c26 : (bt a0 (ji15)) ≥ 128
                · rw [if_pos c26] at H
                  have c26b0 : decide (128 ≤ (bt a0 (ji15))) = true := decide_eq_true c26
                  clear c26
                  by_cases c28 : (bt a0 (ji15)) ≤ 191
                  · rw [if_pos c28] at H
                    have c28b0 : decide ((bt a0 (ji15)) ≤ 191) = true := decide_eq_true c28
                    clear c28
                    by_cases c29 : t160 = t158
                    · rw [if_pos c29] at H
                      have c29b0 : (t160 == t158) = true := beq_iff_eq.mpr c29
                      have c29b1 : (t160 != t158) = false := bne_eq_false_iff_eq.mpr c29
                      clear c29
                      obtain rfl := Option.some.inj H
                      go_wp2_with (first | ((with_reducible refine gate_callee (f := 11) rfl ?_); refine goesL_ (some 31) rfl rfl Try.func11 (by kernel_rfl) rfl #[.string a0, .int .i64 ji15] rfl (by (try simp only [List.map_toArray, List.map_cons, List.map_nil]); first | done | (simp only [hji15]; rfl) | rfl | (simp only [List.length_drop, List.length_take]; rfl)) ?_; (with_reducible refine (place_At.calls a0 ji15 t158 t159 _ A13.out).mono ?_); rintro e w30 ⟨rfl, hb⟩; refine ⟨_, rfl, ?_⟩; have n0_ := Aside0.mk (below_step (by repeat (first | (with_reducible first | exact HB.out | apply below_alloc | apply pw_below_drewN | apply below_drew1) | exact HB.out)) hb); clear HB; have HB := n0_; clear n0_; (try clear hb); (try clear hb2); (try clear hk); (try clear hi)) | ((with_reducible refine gate_callee (f := 11) rfl ?_); refine goesL_ (some 38) rfl rfl Try.func11 (by kernel_rfl) rfl #[.string a0, .int .i64 (wrap64 ((ji15) + 1))] rfl (by (try simp only [List.map_toArray, List.map_cons, List.map_nil]); first | done | (simp only [hji15]; rfl) | rfl | (simp only [List.length_drop, List.length_take]; rfl)) ?_; (with_reducible refine (place_At.calls a0 (wrap64 ((ji15) + 1)) t160 t161 _ A14.out).mono ?_); rintro e w31 ⟨rfl, hb⟩; refine ⟨_, rfl, ?_⟩; have n0_ := Aside0.mk (below_step (by repeat (first | (with_reducible first | exact HB.out | apply below_alloc | apply pw_below_drewN | apply below_drew1) | exact HB.out)) hb); clear HB; have HB := n0_; clear n0_; (try clear hb); (try clear hb2); (try clear hk); (try clear hi); have p18 : 0 ≤ ((ji15) : Int) := of_decide_eq_true (by first | (with_reducible assumption) | assumption); have q18 : (ji15) < (a0.size : Int) := of_decide_eq_true (by first | (with_reducible assumption) | assumption); have hx18 := bt_at a0 (ji15); replace p18 := eq_true p18; replace q18 := eq_true q18; have p25 : 0 ≤ ((ji15) : Int) := of_decide_eq_true (by first | (with_reducible assumption) | assumption); have q25 : (ji15) < (a0.size : Int) := of_decide_eq_true (by first | (with_reducible assumption) | assumption); have hx25 := bt_at a0 (ji15); replace p25 := eq_true p25; replace q25 := eq_true q25; have p27 : 0 ≤ ((ji15) : Int) := of_decide_eq_true (by first | (with_reducible assumption) | assumption); have q27 : (ji15) < (a0.size : Int) := of_decide_eq_true (by first | (with_reducible assumption) | assumption); have hx27 := bt_at a0 (ji15); replace p27 := eq_true p27; replace q27 := eq_true q27))
                      go_ret
                      exact ⟨by first | rfl | (simp [errW_none, errW_some] <;> rfl) | (simp only [← hji11, ← hji15]; first | rfl | (simp [errW_none, errW_some] <;> rfl)) | (simp [*, errW_none, errW_some] <;> rfl), by repeat (first | (with_reducible first | exact HB.out | apply below_alloc | apply pw_below_drewN | apply below_drew1) | exact HB.out)⟩
                    · rw [if_neg c29] at H
                      have c29b0 : (t160 == t158) = false := beq_eq_false_iff_ne.mpr c29
                      have c29b1 : (t160 != t158) = true := bne_iff_ne.mpr c29
                      obtain rfl := Option.some.inj H
                      go_wp2_with (first | ((with_reducible refine gate_callee (f := 11) rfl ?_); refine goesL_ (some 31) rfl rfl Try.func11 (by kernel_rfl) rfl #[.string a0, .int .i64 ji15] rfl (by (try simp only [List.map_toArray, List.map_cons, List.map_nil]); first | done | (simp only [hji15]; rfl) | rfl | (simp only [List.length_drop, List.length_take]; rfl)) ?_; (with_reducible refine (place_At.calls a0 ji15 t158 t159 _ A13.out).mono ?_); rintro e w32 ⟨rfl, hb⟩; refine ⟨_, rfl, ?_⟩; have n0_ := Aside0.mk (below_step (by repeat (first | (with_reducible first | exact HB.out | apply below_alloc | apply pw_below_drewN | apply below_drew1) | exact HB.out)) hb); clear HB; have HB := n0_; clear n0_; (try clear hb); (try clear hb2); (try clear hk); (try clear hi)) | ((with_reducible refine gate_callee (f := 11) rfl ?_); refine goesL_ (some 38) rfl rfl Try.func11 (by kernel_rfl) rfl #[.string a0, .int .i64 (wrap64 ((ji15) + 1))] rfl (by (try simp only [List.map_toArray, List.map_cons, List.map_nil]); first | done | (simp only [hji15]; rfl) | rfl | (simp only [List.length_drop, List.length_take]; rfl)) ?_; (with_reducible refine (place_At.calls a0 (wrap64 ((ji15) + 1)) t160 t161 _ A14.out).mono ?_); rintro e w33 ⟨rfl, hb⟩; refine ⟨_, rfl, ?_⟩; have n0_ := Aside0.mk (below_step (by repeat (first | (with_reducible first | exact HB.out | apply below_alloc | apply pw_below_drewN | apply below_drew1) | exact HB.out)) hb); clear HB; have HB := n0_; clear n0_; (try clear hb); (try clear hb2); (try clear hk); (try clear hi); have p18 : 0 ≤ ((ji15) : Int) := of_decide_eq_true (by first | (with_reducible assumption) | assumption); have q18 : (ji15) < (a0.size : Int) := of_decide_eq_true (by first | (with_reducible assumption) | assumption); have hx18 := bt_at a0 (ji15); replace p18 := eq_true p18; replace q18 := eq_true q18; have p25 : 0 ≤ ((ji15) : Int) := of_decide_eq_true (by first | (with_reducible assumption) | assumption); have q25 : (ji15) < (a0.size : Int) := of_decide_eq_true (by first | (with_reducible assumption) | assumption); have hx25 := bt_at a0 (ji15); replace p25 := eq_true p25; replace q25 := eq_true q25; have p27 : 0 ≤ ((ji15) : Int) := of_decide_eq_true (by first | (with_reducible assumption) | assumption); have q27 : (ji15) < (a0.size : Int) := of_decide_eq_true (by first | (with_reducible assumption) | assumption); have hx27 := bt_at a0 (ji15); replace p27 := eq_true p27; replace q27 := eq_true q27))
                      go_ret
                      exact ⟨by first | rfl | (simp [errW_none, errW_some] <;> rfl) | (simp only [← hji11, ← hji15]; first | rfl | (simp [errW_none, errW_some] <;> rfl)) | (simp [*, errW_none, errW_some] <;> rfl), by repeat (first | (with_reducible first | exact HB.out | apply below_alloc | apply pw_below_drewN | apply below_drew1) | exact HB.out)⟩
                  · rw [if_neg c28] at H
                    have c28b0 : decide ((bt a0 (ji15)) ≤ 191) = false := decide_eq_false c28
                    clear c28
                    by_cases c34 : t160 = t158
                    · rw [if_pos c34] at H
                      have c34b0 : (t160 == t158) = true := beq_iff_eq.mpr c34
                      have c34b1 : (t160 != t158) = false := bne_eq_false_iff_eq.mpr c34
                      clear c34
                      obtain rfl := Option.some.inj H
                      go_wp2_with (first | ((with_reducible refine gate_callee (f := 11) rfl ?_); refine goesL_ (some 31) rfl rfl Try.func11 (by kernel_rfl) rfl #[.string a0, .int .i64 ji15] rfl (by (try simp only [List.map_toArray, List.map_cons, List.map_nil]); first | done | (simp only [hji15]; rfl) | rfl | (simp only [List.length_drop, List.length_take]; rfl)) ?_; (with_reducible refine (place_At.calls a0 ji15 t158 t159 _ A13.out).mono ?_); rintro e w35 ⟨rfl, hb⟩; refine ⟨_, rfl, ?_⟩; have n0_ := Aside0.mk (below_step (by repeat (first | (with_reducible first | exact HB.out | apply below_alloc | apply pw_below_drewN | apply below_drew1) | exact HB.out)) hb); clear HB; have HB := n0_; clear n0_; (try clear hb); (try clear hb2); (try clear hk); (try clear hi)) | ((with_reducible refine gate_callee (f := 11) rfl ?_); refine goesL_ (some 38) rfl rfl Try.func11 (by kernel_rfl) rfl #[.string a0, .int .i64 (wrap64 ((ji15) + 1))] rfl (by (try simp only [List.map_toArray, List.map_cons, List.map_nil]); first | done | (simp only [hji15]; rfl) | rfl | (simp only [List.length_drop, List.length_take]; rfl)) ?_; (with_reducible refine (place_At.calls a0 (wrap64 ((ji15) + 1)) t160 t161 _ A14.out).mono ?_); rintro e w36 ⟨rfl, hb⟩; refine ⟨_, rfl, ?_⟩; have n0_ := Aside0.mk (below_step (by repeat (first | (with_reducible first | exact HB.out | apply below_alloc | apply pw_below_drewN | apply below_drew1) | exact HB.out)) hb); clear HB; have HB := n0_; clear n0_; (try clear hb); (try clear hb2); (try clear hk); (try clear hi); have p18 : 0 ≤ ((ji15) : Int) := of_decide_eq_true (by first | (with_reducible assumption) | assumption); have q18 : (ji15) < (a0.size : Int) := of_decide_eq_true (by first | (with_reducible assumption) | assumption); have hx18 := bt_at a0 (ji15); replace p18 := eq_true p18; replace q18 := eq_true q18; have p25 : 0 ≤ ((ji15) : Int) := of_decide_eq_true (by first | (with_reducible assumption) | assumption); have q25 : (ji15) < (a0.size : Int) := of_decide_eq_true (by first | (with_reducible assumption) | assumption); have hx25 := bt_at a0 (ji15); replace p25 := eq_true p25; replace q25 := eq_true q25; have p27 : 0 ≤ ((ji15) : Int) := of_decide_eq_true (by first | (with_reducible assumption) | assumption); have q27 : (ji15) < (a0.size : Int) := of_decide_eq_true (by first | (with_reducible assumption) | assumption); have hx27 := bt_at a0 (ji15); replace p27 := eq_true p27; replace q27 := eq_true q27))
                      go_ret
                      exact ⟨by first | rfl | (simp [errW_none, errW_some] <;> rfl) | (simp only [← hji11, ← hji15]; first | rfl | (simp [errW_none, errW_some] <;> rfl)) | (simp [*, errW_none, errW_some] <;> rfl), by repeat (first | (with_reducible first | exact HB.out | apply below_alloc | apply pw_below_drewN | apply below_drew1) | exact HB.out)⟩
                    · rw [if_neg c34] at H
                      have c34b0 : (t160 == t158) = false := beq_eq_false_iff_ne.mpr c34
                      have c34b1 : (t160 != t158) = true := bne_iff_ne.mpr c34
                      obtain rfl := Option.some.inj H
                      go_wp2_with (first | ((with_reducible refine gate_callee (f := 11) rfl ?_); refine goesL_ (some 31) rfl rfl Try.func11 (by kernel_rfl) rfl #[.string a0, .int .i64 ji15] rfl (by (try simp only [List.map_toArray, List.map_cons, List.map_nil]); first | done | (simp only [hji15]; rfl) | rfl | (simp only [List.length_drop, List.length_take]; rfl)) ?_; (with_reducible refine (place_At.calls a0 ji15 t158 t159 _ A13.out).mono ?_); rintro e w37 ⟨rfl, hb⟩; refine ⟨_, rfl, ?_⟩; have n0_ := Aside0.mk (below_step (by repeat (first | (with_reducible first | exact HB.out | apply below_alloc | apply pw_below_drewN | apply below_drew1) | exact HB.out)) hb); clear HB; have HB := n0_; clear n0_; (try clear hb); (try clear hb2); (try clear hk); (try clear hi)) | ((with_reducible refine gate_callee (f := 11) rfl ?_); refine goesL_ (some 38) rfl rfl Try.func11 (by kernel_rfl) rfl #[.string a0, .int .i64 (wrap64 ((ji15) + 1))] rfl (by (try simp only [List.map_toArray, List.map_cons, List.map_nil]); first | done | (simp only [hji15]; rfl) | rfl | (simp only [List.length_drop, List.length_take]; rfl)) ?_; (with_reducible refine (place_At.calls a0 (wrap64 ((ji15) + 1)) t160 t161 _ A14.out).mono ?_); rintro e w38 ⟨rfl, hb⟩; refine ⟨_, rfl, ?_⟩; have n0_ := Aside0.mk (below_step (by repeat (first | (with_reducible first | exact HB.out | apply below_alloc | apply pw_below_drewN | apply below_drew1) | exact HB.out)) hb); clear HB; have HB := n0_; clear n0_; (try clear hb); (try clear hb2); (try clear hk); (try clear hi); have p18 : 0 ≤ ((ji15) : Int) := of_decide_eq_true (by first | (with_reducible assumption) | assumption); have q18 : (ji15) < (a0.size : Int) := of_decide_eq_true (by first | (with_reducible assumption) | assumption); have hx18 := bt_at a0 (ji15); replace p18 := eq_true p18; replace q18 := eq_true q18; have p25 : 0 ≤ ((ji15) : Int) := of_decide_eq_true (by first | (with_reducible assumption) | assumption); have q25 : (ji15) < (a0.size : Int) := of_decide_eq_true (by first | (with_reducible assumption) | assumption); have hx25 := bt_at a0 (ji15); replace p25 := eq_true p25; replace q25 := eq_true q25; have p27 : 0 ≤ ((ji15) : Int) := of_decide_eq_true (by first | (with_reducible assumption) | assumption); have q27 : (ji15) < (a0.size : Int) := of_decide_eq_true (by first | (with_reducible assumption) | assumption); have hx27 := bt_at a0 (ji15); replace p27 := eq_true p27; replace q27 := eq_true q27))
                      go_ret
                      exact ⟨by first | rfl | (simp [errW_none, errW_some] <;> rfl) | (simp only [← hji11, ← hji15]; first | rfl | (simp [errW_none, errW_some] <;> rfl)) | (simp [*, errW_none, errW_some] <;> rfl), by repeat (first | (with_reducible first | exact HB.out | apply below_alloc | apply pw_below_drewN | apply below_drew1) | exact HB.out)⟩
                · rw [if_neg c26] at H
                  have c26b0 : decide (128 ≤ (bt a0 (ji15))) = false := decide_eq_false c26
                  clear c26
                  by_cases c39 : t160 = t158
                  · rw [if_pos c39] at H
                    have c39b0 : (t160 == t158) = true := beq_iff_eq.mpr c39
                    have c39b1 : (t160 != t158) = false := bne_eq_false_iff_eq.mpr c39
                    clear c39
                    obtain rfl := Option.some.inj H
                    go_wp2_with (first | ((with_reducible refine gate_callee (f := 11) rfl ?_); refine goesL_ (some 31) rfl rfl Try.func11 (by kernel_rfl) rfl #[.string a0, .int .i64 ji15] rfl (by (try simp only [List.map_toArray, List.map_cons, List.map_nil]); first | done | (simp only [hji15]; rfl) | rfl | (simp only [List.length_drop, List.length_take]; rfl)) ?_; (with_reducible refine (place_At.calls a0 ji15 t158 t159 _ A13.out).mono ?_); rintro e w40 ⟨rfl, hb⟩; refine ⟨_, rfl, ?_⟩; have n0_ := Aside0.mk (below_step (by repeat (first | (with_reducible first | exact HB.out | apply below_alloc | apply pw_below_drewN | apply below_drew1) | exact HB.out)) hb); clear HB; have HB := n0_; clear n0_; (try clear hb); (try clear hb2); (try clear hk); (try clear hi)) | ((with_reducible refine gate_callee (f := 11) rfl ?_); refine goesL_ (some 38) rfl rfl Try.func11 (by kernel_rfl) rfl #[.string a0, .int .i64 (wrap64 ((ji15) + 1))] rfl (by (try simp only [List.map_toArray, List.map_cons, List.map_nil]); first | done | (simp only [hji15]; rfl) | rfl | (simp only [List.length_drop, List.length_take]; rfl)) ?_; (with_reducible refine (place_At.calls a0 (wrap64 ((ji15) + 1)) t160 t161 _ A14.out).mono ?_); rintro e w41 ⟨rfl, hb⟩; refine ⟨_, rfl, ?_⟩; have n0_ := Aside0.mk (below_step (by repeat (first | (with_reducible first | exact HB.out | apply below_alloc | apply pw_below_drewN | apply below_drew1) | exact HB.out)) hb); clear HB; have HB := n0_; clear n0_; (try clear hb); (try clear hb2); (try clear hk); (try clear hi); have p18 : 0 ≤ ((ji15) : Int) := of_decide_eq_true (by first | (with_reducible assumption) | assumption); have q18 : (ji15) < (a0.size : Int) := of_decide_eq_true (by first | (with_reducible assumption) | assumption); have hx18 := bt_at a0 (ji15); replace p18 := eq_true p18; replace q18 := eq_true q18; have p25 : 0 ≤ ((ji15) : Int) := of_decide_eq_true (by first | (with_reducible assumption) | assumption); have q25 : (ji15) < (a0.size : Int) := of_decide_eq_true (by first | (with_reducible assumption) | assumption); have hx25 := bt_at a0 (ji15); replace p25 := eq_true p25; replace q25 := eq_true q25))
                    go_ret
                    exact ⟨by first | rfl | (simp [errW_none, errW_some] <;> rfl) | (simp only [← hji11, ← hji15]; first | rfl | (simp [errW_none, errW_some] <;> rfl)) | (simp [*, errW_none, errW_some] <;> rfl), by repeat (first | (with_reducible first | exact HB.out | apply below_alloc | apply pw_below_drewN | apply below_drew1) | exact HB.out)⟩
                  · rw [if_neg c39] at H
                    have c39b0 : (t160 == t158) = false := beq_eq_false_iff_ne.mpr c39
                    have c39b1 : (t160 != t158) = true := bne_iff_ne.mpr c39
                    obtain rfl := Option.some.inj H
                    go_wp2_with (first | ((with_reducible refine gate_callee (f := 11) rfl ?_); refine goesL_ (some 31) rfl rfl Try.func11 (by kernel_rfl) rfl #[.string a0, .int .i64 ji15] rfl (by (try simp only [List.map_toArray, List.map_cons, List.map_nil]); first | done | (simp only [hji15]; rfl) | rfl | (simp only [List.length_drop, List.length_take]; rfl)) ?_; (with_reducible refine (place_At.calls a0 ji15 t158 t159 _ A13.out).mono ?_); rintro e w42 ⟨rfl, hb⟩; refine ⟨_, rfl, ?_⟩; have n0_ := Aside0.mk (below_step (by repeat (first | (with_reducible first | exact HB.out | apply below_alloc | apply pw_below_drewN | apply below_drew1) | exact HB.out)) hb); clear HB; have HB := n0_; clear n0_; (try clear hb); (try clear hb2); (try clear hk); (try clear hi)) | ((with_reducible refine gate_callee (f := 11) rfl ?_); refine goesL_ (some 38) rfl rfl Try.func11 (by kernel_rfl) rfl #[.string a0, .int .i64 (wrap64 ((ji15) + 1))] rfl (by (try simp only [List.map_toArray, List.map_cons, List.map_nil]); first | done | (simp only [hji15]; rfl) | rfl | (simp only [List.length_drop, List.length_take]; rfl)) ?_; (with_reducible refine (place_At.calls a0 (wrap64 ((ji15) + 1)) t160 t161 _ A14.out).mono ?_); rintro e w43 ⟨rfl, hb⟩; refine ⟨_, rfl, ?_⟩; have n0_ := Aside0.mk (below_step (by repeat (first | (with_reducible first | exact HB.out | apply below_alloc | apply pw_below_drewN | apply below_drew1) | exact HB.out)) hb); clear HB; have HB := n0_; clear n0_; (try clear hb); (try clear hb2); (try clear hk); (try clear hi); have p18 : 0 ≤ ((ji15) : Int) := of_decide_eq_true (by first | (with_reducible assumption) | assumption); have q18 : (ji15) < (a0.size : Int) := of_decide_eq_true (by first | (with_reducible assumption) | assumption); have hx18 := bt_at a0 (ji15); replace p18 := eq_true p18; replace q18 := eq_true q18; have p25 : 0 ≤ ((ji15) : Int) := of_decide_eq_true (by first | (with_reducible assumption) | assumption); have q25 : (ji15) < (a0.size : Int) := of_decide_eq_true (by first | (with_reducible assumption) | assumption); have hx25 := bt_at a0 (ji15); replace p25 := eq_true p25; replace q25 := eq_true q25))
                    go_ret
                    exact ⟨by first | rfl | (simp [errW_none, errW_some] <;> rfl) | (simp only [← hji11, ← hji15]; first | rfl | (simp [errW_none, errW_some] <;> rfl)) | (simp [*, errW_none, errW_some] <;> rfl), by repeat (first | (with_reducible first | exact HB.out | apply below_alloc | apply pw_below_drewN | apply below_drew1) | exact HB.out)⟩
            · rw [if_neg c17] at H
              exact absurd H (by simp)
          · rw [if_neg c16] at H
            exact absurd H (by simp)

/-- THE ONE PURE STATEMENT of portierelaw02_PlaceLines: yours. -/
def portierelaw02_PlaceLines.Pure : Prop := ∀ (a0 : ByteArray) (a1 : Int), a0.size ≤ 140737488351232 → (Lit.int .i64 a1).wf = true → ∃ k, portierelaw02_PlaceLines.f k a0 a1 = some true
theorem portierelaw02_PlaceLines.walk (P : portierelaw02_PlaceLines.Pure) (a0 : ByteArray) (a1 : Int) (w : World) (w0 : a0.size ≤ 140737488351232) (w1 : (Lit.int .i64 a1).wf = true) :
    Calls Try.prog 8 #[.string a0, .int .i64 a1] w fun e w' => e = .returned (.bool true) ∧ Below w.heap.size w w' := by
  obtain ⟨k, h⟩ := P a0 a1 w0 w1
  refine (portierelaw02_PlaceLines.calls k a0 a1 true w h).mono ?_
  rintro e w' ⟨rfl, hd⟩
  exact ⟨rfl, hd⟩

/-! ### portierelaw02_PlaceOrder: function 9 -/
def portierelaw02_PlaceOrder.j0 : Nat → ByteArray → Int → Int → Bool → Option (Bool)
  | 0, _, _, _, _ => none
  | k + 1, x0, x1, x2, x19 => if x19 = true then ((portierelaw02_known.f k).bind fun t163 => (some t163)) else (if (wrap64 ((x0.size : Int) + 1)) = 0 then (none) else (if (wrap64 ((wrap64 ((x0.size : Int) - (Int.tmod (wrap64 (x1)) (wrap64 ((x0.size : Int) + 1))))) + 1)) = 0 then (none) else ((place_At.f x0 (Int.tmod (wrap64 (x1)) (wrap64 ((x0.size : Int) + 1)))).bind fun bt164 => ((place_At.f x0 (wrap64 ((Int.tmod (wrap64 (x1)) (wrap64 ((x0.size : Int) + 1))) + (Int.tmod (wrap64 (x2)) (wrap64 ((wrap64 ((x0.size : Int) - (Int.tmod (wrap64 (x1)) (wrap64 ((x0.size : Int) + 1))))) + 1)))))).bind fun bt166 => (if bt166.1 > bt164.1 then (some true) else (if bt166.1 = bt164.1 then (some (decide (bt166.2 ≥ bt164.2))) else (some false)))))))
def portierelaw02_PlaceOrder.f (k : Nat) (a0 : ByteArray) (a1 : Int) (a2 : Int) : Option (Bool) := if (a0.size : Int) > 2000 then (portierelaw02_PlaceOrder.j0 k a0 a1 a2 true) else ((portierelaw02_known.f k).bind fun t162 => (portierelaw02_PlaceOrder.j0 k a0 a1 a2 (!t162)))
theorem portierelaw02_PlaceOrder.mono_l : ∀ k, (∀ y0 y1 y2 y3, LeO (portierelaw02_PlaceOrder.j0 k y0 y1 y2 y3) (portierelaw02_PlaceOrder.j0 (k + 1) y0 y1 y2 y3))
  | 0 => fun _ _ _ _ r h => by simp [portierelaw02_PlaceOrder.j0] at h
  | k + 1 => by
    have ih0 := portierelaw02_PlaceOrder.mono_l k
    · intro y0 y1 y2 y3
      unfold portierelaw02_PlaceOrder.j0
      repeat' first
      | (with_reducible exact ih0 _ _ _ _)
      | (with_reducible exact portierelaw02_known.mono _)
      | (with_reducible exact LeO.refl _)
      | (with_reducible exact LeO.none _)
      | (with_reducible refine LeO.ite ?_ ?_)
      | (with_reducible refine LeO.bind ?_ (fun _ => ?_))
      | exact ih0 _ _ _ _
      | exact portierelaw02_known.mono _
      | exact LeO.none _
      | refine LeO.ite ?_ ?_
      | refine LeO.bind ?_ (fun _ => ?_)
theorem portierelaw02_PlaceOrder.mono : ∀ a0 a1 a2 k, LeO (portierelaw02_PlaceOrder.f k a0 a1 a2) (portierelaw02_PlaceOrder.f (k + 1) a0 a1 a2) := by
  intro a0 a1 a2 k
  have ih0 := portierelaw02_PlaceOrder.mono_l k
  unfold portierelaw02_PlaceOrder.f
  repeat' first
      | (with_reducible exact ih0 _ _ _ _)
      | (with_reducible exact portierelaw02_known.mono _)
      | (with_reducible exact LeO.refl _)
      | (with_reducible exact LeO.none _)
      | (with_reducible refine LeO.ite ?_ ?_)
      | (with_reducible refine LeO.bind ?_ (fun _ => ?_))
      | exact ih0 _ _ _ _
      | exact portierelaw02_known.mono _
      | exact LeO.none _
      | refine LeO.ite ?_ ?_
      | refine LeO.bind ?_ (fun _ => ?_)
set_option maxHeartbeats 8000000 in
set_option maxRecDepth 100000 in
theorem portierelaw02_PlaceOrder.calls (k : Nat) (a0 : ByteArray) (a1 : Int) (a2 : Int) (r : Bool) (w : World) (h : portierelaw02_PlaceOrder.f k a0 a1 a2 = some r) :
    Calls Try.prog 9 #[.string a0, .int .u16 a1, .int .u16 a2] w fun e w' => e = .returned (.bool r) ∧ Below w.heap.size w w' := by
  have HB := Aside0.mk (Below.refl w.heap.size w)
  have H : (if (a0.size : Int) > 2000 then (portierelaw02_PlaceOrder.j0 k a0 a1 a2 true) else ((portierelaw02_known.f k).bind fun t162 => (portierelaw02_PlaceOrder.j0 k a0 a1 a2 (!t162)))) = some r := h
  clear h
  have HC4 := Aside0.mk H
  clear H
  go_enter Try.func9, Try.ntmps9
  go_upto_region 1 with (fail)
  go_cut [19] (fun v19 wc => ∃ (kq : Nat) (x19_3 : Bool), v19 = .bool x19_3 ∧ Aside0 (portierelaw02_PlaceOrder.j0 kq a0 a1 a2 x19_3 = some r) ∧ Aside0 (kq ≤ k) ∧ Aside0 (Below w.heap.size w wc))
  case first =>
    have H := HC4.out
    clear HC4
    by_cases c5 : (a0.size : Int) > 2000
    · rw [if_pos c5] at H
      have c5b0 : decide (2000 < (a0.size : Int)) = true := decide_eq_true c5
      have c5b1 : decide (2000 < a0.size) = true := decide_eq_true (by omega)
      clear c5
      (first | rw [c5b0] | (simp only [i64_w, i32_w]; rw [c5b0]) | skip)
      have H' := Aside0.mk H
      clear H
      go_wp2
      go_meet
      case rel => exact ⟨_, (true), (by first | rfl | (simp; done) | (simp [*]; done)), H', ⟨by first | omega | exact Nat.le_refl _⟩, ⟨by repeat (first | (with_reducible first | exact HB.out | apply below_alloc | apply pw_below_drewN | apply below_drew1) | exact HB.out)⟩⟩
    · rw [if_neg c5] at H
      have c5b0 : decide (2000 < (a0.size : Int)) = false := decide_eq_false c5
      have c5b1 : decide (2000 < a0.size) = false := decide_eq_false (by omega)
      clear c5
      (first | rw [c5b0] | (simp only [i64_w, i32_w]; rw [c5b0]) | skip)
      replace H := Option.bind_eq_some_iff.mp H
      obtain ⟨t162, A60, H⟩ := H
      replace H : (portierelaw02_PlaceOrder.j0 k a0 a1 a2 (!t162)) = some r := H
      have A6 := Aside0.mk A60
      clear A60
      have H' := Aside0.mk H
      clear H
      go_wp2_with (first | (go_at_call 10; (with_reducible refine (portierelaw02_known.calls k  t162 _ A6.out).mono ?_); rintro e w7 ⟨rfl, hb⟩; have n0_ := Aside0.mk (below_step (by repeat (first | (with_reducible first | exact HB.out | apply below_alloc | apply pw_below_drewN | apply below_drew1) | exact HB.out)) hb); clear HB; have HB := n0_; clear n0_; (try clear hb); (try clear hb2); (try clear hk); (try clear hi)))
      go_meet
      case rel => exact ⟨_, (!t162), (by first | rfl | (simp; done) | (simp [*]; done)), H', ⟨by first | omega | exact Nat.le_refl _⟩, ⟨by repeat (first | (with_reducible first | exact HB.out | apply below_alloc | apply pw_below_drewN | apply below_drew1) | exact HB.out)⟩⟩
  case rest =>
    clear HC4
    try clear p2
    try clear c5
    try clear c5b0
    try clear c5b1
    obtain ⟨kq, x19_3, rfl, HA, HJ3, HB⟩ := hcut
    cases kq with
    | zero => exact absurd HA.out (by simp [portierelaw02_PlaceOrder.j0])
    | succ kj3 =>
      have H := HA.out
      clear HA
      simp only [portierelaw02_PlaceOrder.j0] at H
      by_cases c8 : x19_3 = true
      · subst c8
        have H1 : ((portierelaw02_known.f kj3).bind fun t163 => (some t163)) = some r := by rw [if_pos rfl] at H; exact H
        clear H
        have H := H1
        clear H1
        replace H := Option.bind_eq_some_iff.mp H
        obtain ⟨t163, A90, H⟩ := H
        replace H : (some t163) = some r := H
        have A9 := Aside0.mk A90
        clear A90
        obtain rfl := Option.some.inj H
        go_wp2_with (first | ((with_reducible refine gate_callee (f := 10) rfl ?_); refine goesL_ (some 20) rfl rfl Try.func10 (by kernel_rfl) rfl #[] rfl (by (try simp only [List.map_toArray, List.map_cons, List.map_nil]); first | done | rfl | (simp only [List.length_drop, List.length_take]; rfl)) ?_; (with_reducible refine (portierelaw02_known.calls kj3  t163 _ A9.out).mono ?_); rintro e w10 ⟨rfl, hb⟩; refine ⟨_, rfl, ?_⟩; have n0_ := Aside0.mk (below_step (by repeat (first | (with_reducible first | exact HB.out | apply below_alloc | apply pw_below_drewN | apply below_drew1) | exact HB.out)) hb); clear HB; have HB := n0_; clear n0_; (try clear hb); (try clear hb2); (try clear hk); (try clear hi)))
        go_ret
        exact ⟨by first | rfl | (simp [errW_none, errW_some] <;> rfl) | (simp [*, errW_none, errW_some] <;> rfl), by repeat (first | (with_reducible first | exact HB.out | apply below_alloc | apply pw_below_drewN | apply below_drew1) | exact HB.out)⟩
      · replace c8 := Bool.eq_false_iff.mpr c8
        subst c8
        have H1 : (if (wrap64 ((a0.size : Int) + 1)) = 0 then (none) else (if (wrap64 ((wrap64 ((a0.size : Int) - (Int.tmod (wrap64 (a1)) (wrap64 ((a0.size : Int) + 1))))) + 1)) = 0 then (none) else ((place_At.f a0 (Int.tmod (wrap64 (a1)) (wrap64 ((a0.size : Int) + 1)))).bind fun bt164 => ((place_At.f a0 (wrap64 ((Int.tmod (wrap64 (a1)) (wrap64 ((a0.size : Int) + 1))) + (Int.tmod (wrap64 (a2)) (wrap64 ((wrap64 ((a0.size : Int) - (Int.tmod (wrap64 (a1)) (wrap64 ((a0.size : Int) + 1))))) + 1)))))).bind fun bt166 => (if bt166.1 > bt164.1 then (some true) else (if bt166.1 = bt164.1 then (some (decide (bt166.2 ≥ bt164.2))) else (some false))))))) = some r := by rw [if_neg (show ¬ (false = true) by decide)] at H; exact H
        clear H
        have H := H1
        clear H1
        by_cases c11 : (wrap64 ((a0.size : Int) + 1)) = 0
        · rw [if_pos c11] at H
          exact absurd H (by simp)
        · rw [if_neg c11] at H
          (try (have c11u : ¬ ((((a0.size : Int) + 1)) = 0) := by (have h_ := c11; unfold wrap64 at h_; omega)))
          (try (have c11ub0 : ((((a0.size : Int) + 1)) == 0) = false := beq_eq_false_iff_ne.mpr c11u))
          (try (have c11ub1 : ((((a0.size : Int) + 1)) != 0) = true := bne_iff_ne.mpr c11u))
          have c11b0 : ((wrap64 ((a0.size : Int) + 1)) == 0) = false := beq_eq_false_iff_ne.mpr c11
          have c11b1 : ((wrap64 ((a0.size : Int) + 1)) != 0) = true := bne_iff_ne.mpr c11
          by_cases c12 : (wrap64 ((wrap64 ((a0.size : Int) - (Int.tmod (wrap64 (a1)) (wrap64 ((a0.size : Int) + 1))))) + 1)) = 0
          · rw [if_pos c12] at H
            exact absurd H (by simp)
          · rw [if_neg c12] at H
            (try (have c12u : ¬ ((((((a0.size : Int) - (Int.tmod ((a1)) (((a0.size : Int) + 1))))) + 1)) = 0) := by (have h_ := c12; unfold wrap64 at h_; omega)))
            (try (have c12ub0 : ((((((a0.size : Int) - (Int.tmod ((a1)) (((a0.size : Int) + 1))))) + 1)) == 0) = false := beq_eq_false_iff_ne.mpr c12u))
            (try (have c12ub1 : ((((((a0.size : Int) - (Int.tmod ((a1)) (((a0.size : Int) + 1))))) + 1)) != 0) = true := bne_iff_ne.mpr c12u))
            have c12b0 : ((wrap64 ((wrap64 ((a0.size : Int) - (Int.tmod (wrap64 (a1)) (wrap64 ((a0.size : Int) + 1))))) + 1)) == 0) = false := beq_eq_false_iff_ne.mpr c12
            have c12b1 : ((wrap64 ((wrap64 ((a0.size : Int) - (Int.tmod (wrap64 (a1)) (wrap64 ((a0.size : Int) + 1))))) + 1)) != 0) = true := bne_iff_ne.mpr c12
            replace H := Option.bind_eq_some_iff.mp H
            obtain ⟨⟨t164, t165⟩, A130, H⟩ := H
            replace H : ((place_At.f a0 (wrap64 ((Int.tmod (wrap64 (a1)) (wrap64 ((a0.size : Int) + 1))) + (Int.tmod (wrap64 (a2)) (wrap64 ((wrap64 ((a0.size : Int) - (Int.tmod (wrap64 (a1)) (wrap64 ((a0.size : Int) + 1))))) + 1)))))).bind fun bt166 => (if bt166.1 > t164 then (some true) else (if bt166.1 = t164 then (some (decide (bt166.2 ≥ t165))) else (some false)))) = some r := H
            have A13 := Aside0.mk A130
            clear A130
            replace H := Option.bind_eq_some_iff.mp H
            obtain ⟨⟨t166, t167⟩, A140, H⟩ := H
            replace H : (if t166 > t164 then (some true) else (if t166 = t164 then (some (decide (t167 ≥ t165))) else (some false))) = some r := H
            have A14 := Aside0.mk A140
            clear A140
            by_cases c15 : t166 > t164
            · rw [if_pos c15] at H
              have c15b0 : decide (t164 < t166) = true := decide_eq_true c15
              clear c15
              obtain rfl := Option.some.inj H
              go_wp2_with (first | ((with_reducible refine gate_callee (f := 11) rfl ?_); refine goesL_ (some 40) rfl rfl Try.func11 (by kernel_rfl) rfl #[.string a0, .int .i64 (Int.tmod (wrap64 (a1)) (wrap64 ((a0.size : Int) + 1)))] rfl (by (try simp only [List.map_toArray, List.map_cons, List.map_nil]); first | done | rfl | (simp only [List.length_drop, List.length_take]; rfl)) ?_; (with_reducible refine (place_At.calls a0 (Int.tmod (wrap64 (a1)) (wrap64 ((a0.size : Int) + 1))) t164 t165 _ A13.out).mono ?_); rintro e w16 ⟨rfl, hb⟩; refine ⟨_, rfl, ?_⟩; have n0_ := Aside0.mk (below_step (by repeat (first | (with_reducible first | exact HB.out | apply below_alloc | apply pw_below_drewN | apply below_drew1) | exact HB.out)) hb); clear HB; have HB := n0_; clear n0_; (try clear hb); (try clear hb2); (try clear hk); (try clear hi)) | ((with_reducible refine gate_callee (f := 11) rfl ?_); refine goesL_ (some 46) rfl rfl Try.func11 (by kernel_rfl) rfl #[.string a0, .int .i64 (wrap64 ((Int.tmod (wrap64 (a1)) (wrap64 ((a0.size : Int) + 1))) + (Int.tmod (wrap64 (a2)) (wrap64 ((wrap64 ((a0.size : Int) - (Int.tmod (wrap64 (a1)) (wrap64 ((a0.size : Int) + 1))))) + 1)))))] rfl (by (try simp only [List.map_toArray, List.map_cons, List.map_nil]); first | done | rfl | (simp only [List.length_drop, List.length_take]; rfl)) ?_; (with_reducible refine (place_At.calls a0 (wrap64 ((Int.tmod (wrap64 (a1)) (wrap64 ((a0.size : Int) + 1))) + (Int.tmod (wrap64 (a2)) (wrap64 ((wrap64 ((a0.size : Int) - (Int.tmod (wrap64 (a1)) (wrap64 ((a0.size : Int) + 1))))) + 1))))) t166 t167 _ A14.out).mono ?_); rintro e w17 ⟨rfl, hb⟩; refine ⟨_, rfl, ?_⟩; have n0_ := Aside0.mk (below_step (by repeat (first | (with_reducible first | exact HB.out | apply below_alloc | apply pw_below_drewN | apply below_drew1) | exact HB.out)) hb); clear HB; have HB := n0_; clear n0_; (try clear hb); (try clear hb2); (try clear hk); (try clear hi)))
              go_ret
              exact ⟨by first | rfl | (simp [errW_none, errW_some] <;> rfl) | (simp [*, errW_none, errW_some] <;> rfl), by repeat (first | (with_reducible first | exact HB.out | apply below_alloc | apply pw_below_drewN | apply below_drew1) | exact HB.out)⟩
            · rw [if_neg c15] at H
              have c15b0 : decide (t164 < t166) = false := decide_eq_false c15
              clear c15
              by_cases c18 : t166 = t164
              · rw [if_pos c18] at H
                have c18b0 : (t166 == t164) = true := beq_iff_eq.mpr c18
                have c18b1 : (t166 != t164) = false := bne_eq_false_iff_eq.mpr c18
                clear c18
                obtain rfl := Option.some.inj H
                go_wp2_with (first | ((with_reducible refine gate_callee (f := 11) rfl ?_); refine goesL_ (some 40) rfl rfl Try.func11 (by kernel_rfl) rfl #[.string a0, .int .i64 (Int.tmod (wrap64 (a1)) (wrap64 ((a0.size : Int) + 1)))] rfl (by (try simp only [List.map_toArray, List.map_cons, List.map_nil]); first | done | rfl | (simp only [List.length_drop, List.length_take]; rfl)) ?_; (with_reducible refine (place_At.calls a0 (Int.tmod (wrap64 (a1)) (wrap64 ((a0.size : Int) + 1))) t164 t165 _ A13.out).mono ?_); rintro e w19 ⟨rfl, hb⟩; refine ⟨_, rfl, ?_⟩; have n0_ := Aside0.mk (below_step (by repeat (first | (with_reducible first | exact HB.out | apply below_alloc | apply pw_below_drewN | apply below_drew1) | exact HB.out)) hb); clear HB; have HB := n0_; clear n0_; (try clear hb); (try clear hb2); (try clear hk); (try clear hi)) | ((with_reducible refine gate_callee (f := 11) rfl ?_); refine goesL_ (some 46) rfl rfl Try.func11 (by kernel_rfl) rfl #[.string a0, .int .i64 (wrap64 ((Int.tmod (wrap64 (a1)) (wrap64 ((a0.size : Int) + 1))) + (Int.tmod (wrap64 (a2)) (wrap64 ((wrap64 ((a0.size : Int) - (Int.tmod (wrap64 (a1)) (wrap64 ((a0.size : Int) + 1))))) + 1)))))] rfl (by (try simp only [List.map_toArray, List.map_cons, List.map_nil]); first | done | rfl | (simp only [List.length_drop, List.length_take]; rfl)) ?_; (with_reducible refine (place_At.calls a0 (wrap64 ((Int.tmod (wrap64 (a1)) (wrap64 ((a0.size : Int) + 1))) + (Int.tmod (wrap64 (a2)) (wrap64 ((wrap64 ((a0.size : Int) - (Int.tmod (wrap64 (a1)) (wrap64 ((a0.size : Int) + 1))))) + 1))))) t166 t167 _ A14.out).mono ?_); rintro e w20 ⟨rfl, hb⟩; refine ⟨_, rfl, ?_⟩; have n0_ := Aside0.mk (below_step (by repeat (first | (with_reducible first | exact HB.out | apply below_alloc | apply pw_below_drewN | apply below_drew1) | exact HB.out)) hb); clear HB; have HB := n0_; clear n0_; (try clear hb); (try clear hb2); (try clear hk); (try clear hi)))
                go_ret
                exact ⟨by first | rfl | (simp [errW_none, errW_some] <;> rfl) | (simp [*, errW_none, errW_some] <;> rfl), by repeat (first | (with_reducible first | exact HB.out | apply below_alloc | apply pw_below_drewN | apply below_drew1) | exact HB.out)⟩
              · rw [if_neg c18] at H
                have c18b0 : (t166 == t164) = false := beq_eq_false_iff_ne.mpr c18
                have c18b1 : (t166 != t164) = true := bne_iff_ne.mpr c18
                obtain rfl := Option.some.inj H
                go_wp2_with (first | ((with_reducible refine gate_callee (f := 11) rfl ?_); refine goesL_ (some 40) rfl rfl Try.func11 (by kernel_rfl) rfl #[.string a0, .int .i64 (Int.tmod (wrap64 (a1)) (wrap64 ((a0.size : Int) + 1)))] rfl (by (try simp only [List.map_toArray, List.map_cons, List.map_nil]); first | done | rfl | (simp only [List.length_drop, List.length_take]; rfl)) ?_; (with_reducible refine (place_At.calls a0 (Int.tmod (wrap64 (a1)) (wrap64 ((a0.size : Int) + 1))) t164 t165 _ A13.out).mono ?_); rintro e w21 ⟨rfl, hb⟩; refine ⟨_, rfl, ?_⟩; have n0_ := Aside0.mk (below_step (by repeat (first | (with_reducible first | exact HB.out | apply below_alloc | apply pw_below_drewN | apply below_drew1) | exact HB.out)) hb); clear HB; have HB := n0_; clear n0_; (try clear hb); (try clear hb2); (try clear hk); (try clear hi)) | ((with_reducible refine gate_callee (f := 11) rfl ?_); refine goesL_ (some 46) rfl rfl Try.func11 (by kernel_rfl) rfl #[.string a0, .int .i64 (wrap64 ((Int.tmod (wrap64 (a1)) (wrap64 ((a0.size : Int) + 1))) + (Int.tmod (wrap64 (a2)) (wrap64 ((wrap64 ((a0.size : Int) - (Int.tmod (wrap64 (a1)) (wrap64 ((a0.size : Int) + 1))))) + 1)))))] rfl (by (try simp only [List.map_toArray, List.map_cons, List.map_nil]); first | done | rfl | (simp only [List.length_drop, List.length_take]; rfl)) ?_; (with_reducible refine (place_At.calls a0 (wrap64 ((Int.tmod (wrap64 (a1)) (wrap64 ((a0.size : Int) + 1))) + (Int.tmod (wrap64 (a2)) (wrap64 ((wrap64 ((a0.size : Int) - (Int.tmod (wrap64 (a1)) (wrap64 ((a0.size : Int) + 1))))) + 1))))) t166 t167 _ A14.out).mono ?_); rintro e w22 ⟨rfl, hb⟩; refine ⟨_, rfl, ?_⟩; have n0_ := Aside0.mk (below_step (by repeat (first | (with_reducible first | exact HB.out | apply below_alloc | apply pw_below_drewN | apply below_drew1) | exact HB.out)) hb); clear HB; have HB := n0_; clear n0_; (try clear hb); (try clear hb2); (try clear hk); (try clear hi)))
                go_ret
                exact ⟨by first | rfl | (simp [errW_none, errW_some] <;> rfl) | (simp [*, errW_none, errW_some] <;> rfl), by repeat (first | (with_reducible first | exact HB.out | apply below_alloc | apply pw_below_drewN | apply below_drew1) | exact HB.out)⟩

/-- THE ONE PURE STATEMENT of portierelaw02_PlaceOrder: yours. -/
def portierelaw02_PlaceOrder.Pure : Prop := ∀ (a0 : ByteArray) (a1 : Int) (a2 : Int), a0.size ≤ 140737488351232 → (Lit.int .u16 a1).wf = true → (Lit.int .u16 a2).wf = true → ∃ k, portierelaw02_PlaceOrder.f k a0 a1 a2 = some true
theorem portierelaw02_PlaceOrder.walk (P : portierelaw02_PlaceOrder.Pure) (a0 : ByteArray) (a1 : Int) (a2 : Int) (w : World) (w0 : a0.size ≤ 140737488351232) (w1 : (Lit.int .u16 a1).wf = true) (w2 : (Lit.int .u16 a2).wf = true) :
    Calls Try.prog 9 #[.string a0, .int .u16 a1, .int .u16 a2] w fun e w' => e = .returned (.bool true) ∧ Below w.heap.size w w' := by
  obtain ⟨k, h⟩ := P a0 a1 a2 w0 w1 w2
  refine (portierelaw02_PlaceOrder.calls k a0 a1 a2 true w h).mono ?_
  rintro e w' ⟨rfl, hd⟩
  exact ⟨rfl, hd⟩

end Go.Proofs.Ytmljfdkmijepnaa.P
