-- Written by wip/tools/gprint.py of this session, over the kit's print. Lean checks it.
import Derived.Test.YtijjfkjihifjpaaPx0
import Derived.Test.YtijjfkjihifjpaaPx1
namespace Go.Proofs.Ytijjfkjihifjpaa.P
open Go.Proofs.Ytijjfkjihifjpaa.Hand
open Go.RowKit Go.Proofs.YtijjfkjihifjpaaW.PrintWords Go.Proofs.YtijjfkjihifjpaaW.PrintLast Go.Proofs.YtijjfkjihifjpaaW.PrintMore
attribute [local go_sem] max2_int min2_int max_two min_two max_three min_three max_four min_four   -- for this text's walks alone
attribute [local go_sem] Go.IntKind.wrap_u32
set_option linter.unusedVariables false
set_option linter.unusedSimpArgs false

/-! ### charref_digits: function 29 (by hand) -/
theorem charref_digit_of (c : Int) (h0 : 0 ≤ c) (h1 : c ≤ 255) : charref_digit.f 3 c = some (digitOf c) := by
  unfold charref_digit.f digitOf charref_digit.j0 charref_digit.j1
  repeat' split
  all_goals first | rfl | (simp_all; done) | (simp_all; omega) | (exfalso; simp_all; omega)
theorem digitOf_le (c : Int) : digitOf c ≤ 15 := by
  unfold digitOf
  repeat' split
  all_goals omega
theorem drop_cons_getD (l : List UInt8) (j : Nat) (h : j < l.length) : l.drop j = l.getD j 0 :: l.drop (j + 1) := by
  rw [List.drop_eq_getElem_cons h]; simp [List.getD_eq_getElem?_getD, List.getElem?_eq_getElem h]
theorem ret2_of {k k' : IntKind} {a b c d : Int} (h1 : a = b) (h2 : c = d) : Ending.returned (.tuple #[.int k a, .int k' c]) = .returned (.tuple #[.int k b, .int k' d]) := by rw [h1, h2]
theorem below_bytesWorld (w : World) (e : TypeId) (s : ByteArray) : Below w.heap.size w (Lib.bytesWorld w e s) := by
  refine ⟨?_, ?_, ?_, ?_, ?_⟩
  · simp [Lib.bytesWorld, World.freeze, World.alloc, World.drew, -World.alloc_eq, -World.drew_eq]
  · simp [Lib.bytesWorld, World.freeze, World.alloc, World.drew, -World.alloc_eq, -World.drew_eq]
  · simp [Lib.bytesWorld, World.freeze, World.alloc, World.drew, -World.alloc_eq, -World.drew_eq]
  · have := Lib.bytesWorld_size w e s; omega
  · intro i hi; exact Lib.bytesWorld_at_old w e s i hi
def charref_digits.f (a0 : ByteArray) (a1 : Int) : Option (Int × Int) := if a0.size ≤ 140737488351232 ∧ (a1 = 10 ∨ a1 = 16) then some (digitsOf a0.data.toList a1 0 0) else none
set_option maxHeartbeats 1000000 in
theorem charref_digits.calls (a0 : ByteArray) (a1 : Int) (r1 : Int) (r2 : Int) (w : World) (h : charref_digits.f a0 a1 = some (r1, r2)) :
    Calls Try.prog 29 #[.string a0, .int .i32 a1] w fun e w' => e = .returned (.tuple #[.int .i64 r1, .int .i32 r2]) ∧ Below w.heap.size w w' := by
  have hf : a0.size ≤ 140737488351232 ∧ (a1 = 10 ∨ a1 = 16) := by
    unfold charref_digits.f at h
    split at h
    · assumption
    · cases h
  have he : digitsOf a0.data.toList a1 0 0 = (r1, r2) := by
    unfold charref_digits.f at h
    rw [if_pos hf] at h
    exact Option.some.inj h
  clear h
  obtain ⟨hs, hb⟩ := hf
  have hb1 : 10 ≤ a1 := by omega
  have hb2 : a1 ≤ 16 := by omega
  clear hb
  have HE := Aside0.mk he
  clear he
  have hconv := fun (w : World) => Lib.run_convert_string_bytes (P := Try.prog) w 9 38 5 a0 Try.underlying9 Try.underlying38 Try.underlying5
  go_enter Try.func29, Try.ntmps29
  go_wp2_with fail
  clear hconv
  have hcell : Aside0 (∀ j, j < a0.size → (Lib.bytesWorld w 5 a0).cell? ⟨w.heap.size, j, none⟩ = some (.int .u8 (a0.data.toList.getD j 0).toNat)) := ⟨fun j hj => Lib.bytesWorld_cell w 5 a0 j hj⟩
  have hbel : Aside0 (Below w.heap.size w (Lib.bytesWorld w 5 a0)) := ⟨below_bytesWorld w 5 a0⟩
  go_loopg [6, 13] a0.size (fun k n i wr => ∃ (j : Nat) (nn : Int), i = .int .i64 j ∧ n = .int .i32 nn ∧ j + k ≤ a0.size ∧ a0.size ≤ j + k ∧ 0 ≤ nn ∧ nn ≤ 1114112 ∧ Aside0 (digitsOf (a0.data.toList.drop j) a1 j nn = (r1, r2)) ∧ Aside0 (Below w.heap.size w wr) ∧ Aside0 (∀ j, j < a0.size → wr.cell? ⟨w.heap.size, j, none⟩ = some (.int .u8 (a0.data.toList.getD j 0).toNat)))
  case atStart => exact ⟨0, 0, rfl, rfl, by omega, by omega, by omega, by omega, ⟨HE.out⟩, hbel, hcell⟩
  case round =>
    clear HE hcell hbel
    obtain ⟨j, nn, rfl, rfl, hj1, hj2, hn0, hn1, HE, HB, HC⟩ := hrel
    by_cases hlt : j < a0.size
    · obtain ⟨c, hc⟩ : ∃ c : Int, c = ((a0.data.toList.getD j 0).toNat : Int) := ⟨_, rfl⟩
      have hc0 : 0 ≤ c := by omega
      have hc1 : c ≤ 255 := by have := (a0.data.toList.getD j 0).toNat_lt; omega
      have hcl := HC.out j hlt
      rw [← hc] at hcl
      have hd := Aside0.mk (charref_digit_of c hc0 hc1)
      have hE2 := HE.out
      rw [drop_cons_getD _ _ (by simpa using hlt)] at hE2
      unfold digitsOf at hE2
      simp only at hE2
      rw [← hc] at hE2
      have hdl := digitOf_le c
      obtain ⟨d, hdd⟩ : ∃ d : Int, d = digitOf c := ⟨_, rfl⟩
      rw [← hdd] at hE2 hd hdl
      have Hc := Aside0.mk hc
      have Hd := Aside0.mk hdd
      clear hc hdd HE
      by_cases hstop : d < 0 ∨ a1 ≤ d
      · rw [if_pos hstop] at hE2
        injection hE2 with e1 e2
        have E1 := Aside0.mk e1
        have E2 := Aside0.mk e2
        clear e1 e2
        by_cases hneg : d < 0
        · clear hstop
          go_wp2_with (go_at_call 34; (with_reducible refine (charref_digit.calls 3 c d _ hd.out).mono ?_); rintro e w' ⟨rfl, hdr⟩)
          go_ret2
          exact ⟨ret2_of E1.out E2.out, below_step HB.out hdr.below⟩
        · have hge : a1 ≤ d := by omega
          clear hstop
          go_wp2_with (go_at_call 34; (with_reducible refine (charref_digit.calls 3 c d _ hd.out).mono ?_); rintro e w' ⟨rfl, hdr⟩)
          go_ret2
          exact ⟨ret2_of E1.out E2.out, below_step HB.out hdr.below⟩
      · rw [if_neg hstop] at hE2
        have h1 : ¬ d < 0 := by omega
        have h2 : ¬ a1 ≤ d := by omega
        have h3 : 0 ≤ nn * a1 := Int.mul_nonneg hn0 (by omega)
        have h4 : nn * a1 ≤ 1114112 * 16 := Int.mul_le_mul hn1 hb2 (by omega) (by omega)
        have E0 := Aside0.mk hE2
        clear hstop hE2
        have hjp : (↑j + 1 : Int) = ((j + 1 : Nat) : Int) := by omega
        have HJ := Aside0.mk hjp
        clear hjp
        by_cases hm : 1114112 < nn * a1 + d
        · go_wp2_with (go_at_call 34; (with_reducible refine (charref_digit.calls 3 c d _ hd.out).mono ?_); rintro e w' ⟨rfl, hdr⟩)
          go_roundg (gk - 1)
          case measure => omega
          case rel => exact ⟨j + 1, 1114112, by rw [HJ.out], rfl, by omega, by omega, by omega, by omega, ⟨by have := E0.out; rw [HJ.out] at this; rw [Int.min_eq_right (by omega)] at this; exact this⟩, ⟨below_step HB.out hdr.below⟩, ⟨fun j hj => pw_cell_below hdr.below (HC.out j hj)⟩⟩
        · go_wp2_with (go_at_call 34; (with_reducible refine (charref_digit.calls 3 c d _ hd.out).mono ?_); rintro e w' ⟨rfl, hdr⟩)
          go_roundg (gk - 1)
          case measure => omega
          case rel => exact ⟨j + 1, nn * a1 + d, by rw [HJ.out], rfl, by omega, by omega, by omega, by omega, ⟨by have := E0.out; rw [HJ.out] at this; rw [Int.min_eq_left (by omega)] at this; exact this⟩, ⟨below_step HB.out hdr.below⟩, ⟨fun j hj => pw_cell_below hdr.below (HC.out j hj)⟩⟩
    · have hE2 := HE.out
      rw [List.drop_of_length_le (by simp; omega)] at hE2
      unfold digitsOf at hE2
      injection hE2 with e1 e2
      have E1 := Aside0.mk e1
      have E2 := Aside0.mk e2
      clear e1 e2
      go_wp2
      go_ret2
      exact ⟨ret2_of (Eq.trans (by omega) E1.out) E2.out, HB.out⟩

end Go.Proofs.Ytijjfkjihifjpaa.P
