-- Written by wip/tools/gprint.py of this session, over the kit's print. Lean checks it.
import Derived.Test.YtmljfdkmijepnaaPx0
import Derived.Test.YtmljfdkmijepnaaPx1
namespace Go.Proofs.Ytmljfdkmijepnaa.P
open Go.Proofs.Ytmljfdkmijepnaa.Hand
open Go.RowKit Go.Proofs.YtmljfdkmijepnaaW.PrintWords Go.Proofs.YtmljfdkmijepnaaW.PrintLast Go.Proofs.YtmljfdkmijepnaaW.PrintMore
attribute [local go_sem] max2_int min2_int max_two min_two max_three min_three max_four min_four   -- for this text's walks alone
attribute [local go_sem] Go.IntKind.wrap_u32
set_option linter.unusedVariables false
set_option linter.unusedSimpArgs false

/-! ### place_At: function 11 (by hand) -/
theorem below_bytesWorld (w : World) (e : TypeId) (s : ByteArray) : Below w.heap.size w (Lib.bytesWorld w e s) := by
  refine ⟨?_, ?_, ?_, ?_, ?_⟩
  · simp [Lib.bytesWorld, World.freeze, World.alloc, World.drew, -World.alloc_eq, -World.drew_eq]
  · simp [Lib.bytesWorld, World.freeze, World.alloc, World.drew, -World.alloc_eq, -World.drew_eq]
  · simp [Lib.bytesWorld, World.freeze, World.alloc, World.drew, -World.alloc_eq, -World.drew_eq]
  · have := Lib.bytesWorld_size w e s; omega
  · intro i hi; exact Lib.bytesWorld_at_old w e s i hi
theorem ret2_of {k k' : IntKind} {a b c d : Int} (h1 : a = b) (h2 : c = d) : Ending.returned (.tuple #[.int k a, .int k' c]) = .returned (.tuple #[.int k b, .int k' d]) := by rw [h1, h2]
theorem drop_cons_getD (l : List UInt8) (j : Nat) (h : j < l.length) : l.drop j = l.getD j 0 :: l.drop (j + 1) := by
  rw [List.drop_eq_getElem_cons h]; simp [List.getD_eq_getElem?_getD, List.getElem?_eq_getElem h]
theorem begins_core (c : Int) (h0 : 0 ≤ c) (h1 : c ≤ 255) : place_begins.f c = some (decide (c < 128) || decide (191 < c)) := by
  unfold place_begins.f
  repeat' split
  all_goals (congr 1; simp_all; try omega)
theorem begins_of (c : UInt8) : place_begins.f (c.toNat : Int) = some (begB c) := begins_core _ (by omega) (by have := c.toNat_lt; omega)
def place_At.f (a0 : ByteArray) (a1 : Int) : Option (Int × Int) := if a0.size ≤ 140737488351232 then some (posOf (a0.data.toList.take (clampAt a0 a1))) else none
set_option maxHeartbeats 2000000 in
set_option maxRecDepth 100000 in
theorem place_At.calls (a0 : ByteArray) (a1 : Int) (r1 : Int) (r2 : Int) (w : World) (h : place_At.f a0 a1 = some (r1, r2)) :
    Calls Try.prog 11 #[.string a0, .int .i64 a1] w fun e w' => e = .returned (.tuple #[.int .i64 r1, .int .i64 r2]) ∧ Below w.heap.size w w' := by
  have hs : a0.size ≤ 140737488351232 := by
    unfold place_At.f at h
    split at h
    · assumption
    · cases h
  have he : posOf (a0.data.toList.take (clampAt a0 a1)) = (r1, r2) := by
    unfold place_At.f at h
    rw [if_pos hs] at h
    exact Option.some.inj h
  clear h
  have HE := Aside0.mk he
  clear he
  go_enter Try.func11, Try.ntmps11
  go_upto_region 1 with (fail)
  go_cut [0] (fun v0 wc => ∃ s' : ByteArray, v0 = .string s' ∧ s'.size ≤ 140737488351232 ∧ Aside0 (s'.data.toList = a0.data.toList.take (clampAt a0 a1)) ∧ Aside0 (Below w.heap.size w wc))
  case first =>
    have cut : ∀ j : Nat, j ≤ a0.size → (a0.extract 0 j).size ≤ 140737488351232 ∧ (a0.extract 0 j).data.toList = a0.data.toList.take j := by
      intro j hj
      have e : (a0.extract 0 j).data.toList = a0.data.toList.take j := by rw [ext_list]; rfl
      refine ⟨?_, e⟩
      rw [size_list, e, List.length_take, ← size_list]
      omega
    have hsz : (0 : Int) ≤ a0.size := by omega
    by_cases h0 : a1 < 0
    · have hc : clampAt a0 a1 = 0 := by unfold clampAt; rw [if_pos h0]
      have G : Aside0 ((ByteArray.empty).data.toList = a0.data.toList.take (clampAt a0 a1)) := ⟨by rw [hc]; rfl⟩
      clear cut hc HE
      have hn : ¬ (a0.size : Int) < a1 := by omega
      go_wp2
      go_meet
      case rel => exact ⟨ByteArray.empty, rfl, Nat.zero_le _, G, ⟨Below.refl _ _⟩⟩
    · by_cases hb : (a0.size : Int) < a1
      · have hc : clampAt a0 a1 = a0.size := by unfold clampAt; rw [if_neg h0, if_pos hb]
        have HC := Aside0.mk hc
        clear cut hc HE
        go_wp2
        go_meet
        case rel => exact ⟨a0, rfl, hs, ⟨by rw [HC.out, List.take_of_length_le (by rw [← size_list]; exact Nat.le_refl _)]⟩, ⟨Below.refl _ _⟩⟩
      · have hc : clampAt a0 a1 = a1.toNat := by unfold clampAt; rw [if_neg h0, if_neg hb]
        obtain ⟨g1, g2⟩ := cut a1.toNat (by omega)
        have G1 := Aside0.mk g1
        have G2 : Aside0 ((a0.extract 0 a1.toNat).data.toList = a0.data.toList.take (clampAt a0 a1)) := ⟨by rw [hc]; exact g2⟩
        clear g1 g2 cut hc HE
        go_wp2
        go_meet
        case rel => exact ⟨a0.extract 0 a1.toNat, rfl, G1.out, G2, ⟨Below.refl _ _⟩⟩
  case rest =>
    obtain ⟨s', rfl, hs', HS, HB⟩ := hcut
    obtain ⟨m, hm1, hm2, hm3⟩ := posOf_shelf s'
    have hE := HE.out
    rw [← HS.out, hm3] at hE
    injection hE with e1 e2
    have hcb : Lib.countByte s'.data.toList 10 ≤ s'.size := by
      rw [size_list]
      exact List.count_le_length
    obtain ⟨cb, hcbe⟩ : ∃ c : Nat, c = Lib.countByte s'.data.toList 10 := ⟨_, rfl⟩
    obtain ⟨x, hx⟩ : ∃ x : Int, x = Lib.lastIndexByte s' 10 := ⟨_, rfl⟩
    rw [← hcbe] at e1 hcb
    rw [← hx] at hm1
    have hC1 : ∀ W, Calls Try.prog 15 #[.string s', .string ⟨#[10]⟩] W fun e w' => e = .returned (.int .i64 cb) ∧ w' = W := by
      intro W
      rw [hcbe]
      exact Try.strings_Count_one s' 10 W
    have hC2 : ∀ W, Calls Try.prog 16 #[.string s', .int .u8 10] W fun e w' => e = .returned (.int .i64 x) ∧ w' = W := by
      intro W
      rw [hx]
      exact Try.strings_LastIndexByte s' 10 (by omega) W
    have C1 := Aside0.mk hC1
    have C2 := Aside0.mk hC2
    have E1 := Aside0.mk e1
    have hx0 : -1 ≤ x := by omega
    have hx1 : x + 1 ≤ s'.size := by omega
    have HM := Aside0.mk hm1
    have hs2 : (s'.size : Int) ≤ 140737488351232 := by omega
    have hcb2 : (cb : Int) ≤ 140737488351232 := by omega
    have hcb3 : (0 : Int) ≤ cb := by omega
    obtain ⟨T, hT⟩ : ∃ t : List UInt8, t = s'.data.toList.drop m := ⟨_, rfl⟩
    have hx2 : (x + 1).toNat = m := by omega
    have hTl : (s'.extract (x + 1).toNat s'.size).data.toList = T := by rw [hx2, hT]; exact ext_from s' m
    obtain ⟨L, hL⟩ : ∃ n : Nat, n = T.length := ⟨_, rfl⟩
    have hsz : (s'.extract (x + 1).toNat s'.size).size = L := by rw [size_list, hTl, hL]
    have hL2 : L ≤ s'.size := by rw [hL, hT, List.length_drop, ← size_list]; omega
    rw [← hT] at e2
    have E2 := Aside0.mk e2
    have hconv := fun (w : World) => Lib.run_convert_string_bytes (P := Try.prog) w 9 29 5 (s'.extract (x + 1).toNat s'.size) Try.underlying9 Try.underlying29 Try.underlying5
    have TL := Aside0.mk hTl
    have SZ := Aside0.mk hsz
    have HL := Aside0.mk hL
    clear hm1 hm2 hm3 e1 e2 hcbe hx hC1 hC2 HE HS hs hcb hs' hT hx2 hTl HM hL
    rw [hsz] at hconv
    go_wp2_with (first | (go_at_call 15; (with_reducible refine (C1.out _).mono ?_); rintro e w1 ⟨rfl, rfl⟩) | (go_at_call 16; (with_reducible refine (C2.out _).mono ?_); rintro e w1 ⟨rfl, rfl⟩))
    have hcell : Aside0 (∀ j, j < L → (Lib.bytesWorld w1 5 (s'.extract (x + 1).toNat s'.size)).cell? ⟨w1.heap.size, j, none⟩ = some (.int .u8 (T.getD j 0).toNat)) := ⟨fun j hj => by
      have := Lib.bytesWorld_cell w1 5 (s'.extract (x + 1).toNat s'.size) j (by rw [SZ.out]; exact hj)
      rw [TL.out] at this
      exact this⟩
    have hbel : Aside0 (Below w.heap.size w (Lib.bytesWorld w1 5 (s'.extract (x + 1).toNat s'.size))) := ⟨below_step HB.out (below_bytesWorld w1 5 _)⟩
    clear hconv HB SZ TL
    generalize Lib.bytesWorld w1 5 (s'.extract (x + 1).toNat s'.size) = w2 at *
    generalize (s'.extract (x + 1).toNat s'.size) = t at *
    have E1' : Aside0 ((cb : Int) + 1 = r1) := E1
    go_loopg [7, 27] L (fun k n i wr => ∃ (j : Nat) (nn : Int), i = .int .i64 j ∧ n = .int .i64 nn ∧ j + k ≤ L ∧ L ≤ j + k ∧ 1 ≤ nn ∧ nn ≤ j + 1 ∧ Aside0 ((T.drop j).foldl colStep nn = r2) ∧ Aside0 (Below w.heap.size w wr) ∧ Aside0 (∀ j, j < L → wr.cell? ⟨w1.heap.size, j, none⟩ = some (.int .u8 (T.getD j 0).toNat)))
    case atStart => exact ⟨0, 1, rfl, rfl, by omega, by omega, by omega, by omega, ⟨E2.out⟩, hbel, hcell⟩
    case round =>
      clear E2 hcell hbel
      obtain ⟨j, nn, rfl, rfl, hj1, hj2, hn0, hn1, HE, HB, HC⟩ := hrel
      by_cases hlt : j < L
      · obtain ⟨c, hc⟩ : ∃ c : UInt8, c = T.getD j 0 := ⟨_, rfl⟩
        have hcl := HC.out j hlt
        have hE2 := HE.out
        rw [drop_cons_getD _ _ (by rw [← HL.out]; exact hlt), List.foldl_cons] at hE2
        rw [← hc] at hcl hE2
        have hd := begins_of c
        obtain ⟨ci, hci⟩ : ∃ i : Int, i = (c.toNat : Int) := ⟨_, rfl⟩
        have hc0 : 0 ≤ ci := by omega
        have hc1 : ci ≤ 255 := by have := c.toNat_lt; omega
        rw [← hci] at hcl hd
        unfold colStep at hE2
        have hjp : (↑j + 1 : Int) = ((j + 1 : Nat) : Int) := by omega
        have HJ := Aside0.mk hjp
        clear hjp hc hci HE
        cases hb : begB c with
        | true =>
          rw [hb] at hE2 hd
          rw [if_pos rfl] at hE2
          have HD := Aside0.mk hd
          have H2 := Aside0.mk hE2
          clear hE2 hd hb
          go_wp2_with (go_at_call 17; (with_reducible refine (place_begins.calls ci _ _ HD.out).mono ?_); rintro e w' ⟨rfl, hdr⟩)
          go_roundg (gk - 1)
          case measure => omega
          case rel => exact ⟨j + 1, nn + 1, by rw [HJ.out], rfl, by omega, by omega, by omega, by omega, H2, ⟨below_step HB.out hdr.below⟩, ⟨fun j hj => pw_cell_below hdr.below (HC.out j hj)⟩⟩
        | false =>
          rw [hb] at hE2 hd
          rw [if_neg (by simp)] at hE2
          have HD := Aside0.mk hd
          have H2 := Aside0.mk hE2
          clear hE2 hd hb
          go_wp2_with (go_at_call 17; (with_reducible refine (place_begins.calls ci _ _ HD.out).mono ?_); rintro e w' ⟨rfl, hdr⟩)
          go_roundg (gk - 1)
          case measure => omega
          case rel => exact ⟨j + 1, nn, by rw [HJ.out], rfl, by omega, by omega, by omega, by omega, H2, ⟨below_step HB.out hdr.below⟩, ⟨fun j hj => pw_cell_below hdr.below (HC.out j hj)⟩⟩
      · have hE2 := HE.out
        rw [List.drop_of_length_le (by rw [← HL.out]; omega)] at hE2
        rw [List.foldl_nil] at hE2
        have H2 := Aside0.mk hE2
        clear hE2 HE
        go_wp2
        go_ret2
        exact ⟨ret2_of E1.out H2.out, HB.out⟩

end Go.Proofs.Ytmljfdkmijepnaa.P
