/- By hand: the law InputEnds, walked. -/
import Derived.Test.YtoejbjmdcokojaaDoorInConv
import Derived.Test.YtoejbjmdcokojaaDoorRefEnds
import Derived.Test.YtoejbjmdcokojaaDoorHandRunes
import Derived.Test.YtoejbjmdcokojaaDoorWLast
import Derived.Test.YtoejbjmdcokojaaDoorWMore
import Derived.Test.YtoejbjmdcokojaaDoorWRepsOne
namespace Go.Proofs.YtoejbjmdcokojaaDoor.Hand
set_option linter.unusedVariables false
set_option linter.unusedSimpArgs false
open Go Go.RowKit Go.Proofs.YtoejbjmdcokojaaDoorW.PrintWords Go.Proofs.YtoejbjmdcokojaaDoorW.PrintLast Go.Proofs.YtoejbjmdcokojaaDoorW.PrintMore Go.Proofs.YtoejbjmdcokojaaDoor.InLaws Go.Proofs.YtoejbjmdcokojaaDoor.RefRunes
attribute [local go_sem] conv_bytes

def seenB (c : UInt8) : UInt8 := UInt8.ofNat (c.toNat % 95 + 32)
/-- Which runes the law looks at. -/
def goodC (c : Int) : Prop := 128 ≤ c ∧ c ≤ 1114111 ∧ ¬ (55296 ≤ c ∧ c ≤ 57343) ∧ c ≠ 65279

set_option maxHeartbeats 1600000 in
set_option maxRecDepth 100000 in
theorem ends_bad (s : ByteArray) (c k : Int) (w : World) (hL : LaidW w) (h : 500 < s.size ∨ (s.size ≤ 500 ∧ ¬ goodC c)) :
    Calls Tryd.prog 3 #[.string s, .int .i32 c, .int .u8 k] w fun e w' => e = .returned (.bool true) ∧ Below w.heap.size w w' := by
  have HK := Aside0.mk (known_calls w hL)
  clear hL
  rcases h with h | ⟨h0, h⟩
  · have h1 : decide (500 < s.size) = true := decide_eq_true h
    have h1' : decide (500 < (s.size : Int)) = true := decide_eq_true (by omega)
    clear h
    go_enter Tryd.func3, Tryd.ntmps3
    go_wp2_with (go_at_call 10; refine HK.out.mono ?_; rintro e w1 ⟨rfl, hb⟩)
    go_ret
    exact ⟨rfl, hb⟩
  · have g0 : decide (500 < s.size) = false := decide_eq_false (by omega)
    have g0' : decide (500 < (s.size : Int)) = false := decide_eq_false (by omega)
    by_cases h1 : c < 128
    · clear h h0
      go_enter Tryd.func3, Tryd.ntmps3
      go_wp2_with (go_at_call 10; refine HK.out.mono ?_; rintro e w1 ⟨rfl, hb⟩)
      go_ret
      exact ⟨rfl, hb⟩
    · by_cases h2 : 1114111 < c
      · clear h h0
        go_enter Tryd.func3, Tryd.ntmps3
        go_wp2_with (go_at_call 10; refine HK.out.mono ?_; rintro e w1 ⟨rfl, hb⟩)
        go_ret
        exact ⟨rfl, hb⟩
      · by_cases h3 : 55296 ≤ c
        · by_cases h4 : c ≤ 57343
          · clear h h0
            go_enter Tryd.func3, Tryd.ntmps3
            go_wp2_with (go_at_call 10; refine HK.out.mono ?_; rintro e w1 ⟨rfl, hb⟩)
            go_ret
            exact ⟨rfl, hb⟩
          · obtain rfl : c = 65279 := by unfold goodC at h; omega
            clear h h0
            go_enter Tryd.func3, Tryd.ntmps3
            go_wp2_with (go_at_call 10; refine HK.out.mono ?_; rintro e w1 ⟨rfl, hb⟩)
            go_ret
            exact ⟨rfl, hb⟩
        · exfalso; unfold goodC at h; omega
def endT (l : List UInt8) (j : Nat) : ByteArray := ⟨((l.take j).map seenB).toArray⟩
theorem endT_snoc (s : ByteArray) (j : Nat) (hj : j < s.size) : endT s.data.toList j ++ strOfNums [((Int.tmod (bt s j) 95) + 32) % 256] = endT s.data.toList (j + 1) := by
  have hlt : j < s.data.toList.length := by rw [Array.length_toList]; exact hj
  have hb : bt s j = ((s.data.toList[j]).toNat : Int) := by
    rw [← bt_at s j (by rw [Int.toNat_natCast]; exact hj)]
    rfl
  have e : (Int.tmod (bt s j) 95 + 32) % 256 = ((seenB (s.data.toList[j])).toNat : Int) := by
    rw [hb]
    have h : Int.tmod ((s.data.toList[j]).toNat : Int) 95 = (((s.data.toList[j]).toNat % 95 : Nat) : Int) := by rw [show ((95 : Int)) = ((95 : Nat) : Int) from rfl, Int.ofNat_tmod]
    rw [h]
    unfold seenB
    rw [UInt8.toNat_ofNat']
    omega
  have es : strOfNums [((seenB (s.data.toList[j])).toNat : Int)] = ⟨[seenB (s.data.toList[j])].toArray⟩ := by
    unfold strOfNums
    simp
  rw [e, es]
  unfold endT
  rw [str_app, List.take_succ_eq_append_getElem hlt, List.map_append]
  rfl
theorem endT_size (l : List UInt8) (j : Nat) : (endT l j).size ≤ j := by
  unfold endT
  rw [str_size, List.length_map]
  exact List.length_take_le _ _

set_option maxHeartbeats 3200000 in
set_option maxRecDepth 100000 in
theorem ends_good (s : ByteArray) (c k : Int) (w : World) (hL : LaidW w) (hs : s.size ≤ 500) (hc : goodC c) (hk : 0 ≤ k ∧ k ≤ 255) :
    Calls Tryd.prog 3 #[.string s, .int .i32 c, .int .u8 k] w fun e w' => e = .returned (.bool true) ∧ Below w.heap.size w w' := by
  have HK := Aside0.mk (known_calls w hL)
  have HL := Aside0.mk hL
  have HC := Aside0.mk hc
  have HS := Aside0.mk hs
  clear hL hc hs
  go_enter Tryd.func3, Tryd.ntmps3
  go_upto_region 1 with (fail)
  go_cut [39] (fun v39 wc => v39 = .bool false ∧ Aside0 (Below w.heap.size w wc))
  case first =>
    have h1 := HC.out.1
    have h2 := HC.out.2.1
    have h3 := HC.out.2.2.1
    have h4 := HC.out.2.2.2
    have h4' : (c == 65279) = false := beq_eq_false_iff_ne.2 h4
    have hs := HS.out
    have g0 : decide (500 < s.size) = false := decide_eq_false (by omega)
    have g0' : decide (500 < (s.size : Int)) = false := decide_eq_false (by omega)
    have n1 : ¬ c < 128 := by omega
    have n2 : ¬ 1114111 < c := by omega
    by_cases h5 : 55296 ≤ c
    · have n3 : ¬ c ≤ 57343 := by omega
      clear hs h1 h2 h3
      go_wp2_with (go_at_call 10; refine HK.out.mono ?_; rintro e w1 ⟨rfl, hb⟩)
      go_meet
      case rel => exact ⟨rfl, ⟨hb⟩⟩
    · clear hs h1 h2 h3
      go_wp2_with (go_at_call 10; refine HK.out.mono ?_; rintro e w1 ⟨rfl, hb⟩)
      go_meet
      case rel => exact ⟨rfl, ⟨hb⟩⟩
  case rest =>
    obtain ⟨rfl, HB⟩ := hcut
    go_wp2
    go_loopg [7, 8] s.size (fun f v7 v8 wr => ∃ (x7 : ByteArray) (x8 : Int), v7 = .string x7 ∧ v8 = .int .i64 x8 ∧ Aside0 (∃ j : Nat, x8 = j ∧ j + f = s.size ∧ x7 = endT s.data.toList j) ∧ Aside0 (Below w.heap.size w wr))
    case atStart => exact ⟨⟨#[]⟩, 0, rfl, rfl, ⟨0, rfl, by omega, rfl⟩, HB⟩
    case round =>
      clear HB
      obtain ⟨x7, x8, rfl, rfl, HJ, HB⟩ := hrel
      have hs := HS.out
      by_cases hlt : x8 < (s.size : Int)
      · have h0 : 0 ≤ x8 := by obtain ⟨j, e, _⟩ := HJ.out; omega
        have c9b0 : decide (x8 < (s.size : Int)) = true := decide_eq_true hlt
        have c10b0 : decide (0 ≤ x8) = true := decide_eq_true h0
        obtain ⟨y, hy⟩ : ∃ y_ : List Int, y_ = [((Int.tmod (bt s x8) 95) + 32) % 256] := ⟨_, rfl⟩
        have Ny := Aside0.mk hy
        have hsz : x7.size + (strOfNums y).size ≤ 9223372036854775807 := by
          obtain ⟨j, _, h2, h3⟩ := HJ.out
          have := endT_size s.data.toList j
          have e1 : (strOfNums y).size = 1 := by rw [hy]; rfl
          rw [h3, e1]; omega
        have c12b0 := eq_true hsz
        have c12b1 : decide (x7.size + (strOfNums y).size ≤ 9223372036854775807) = true := decide_eq_true hsz
        have c12b2 : (9223372036854775807 < x7.size + (strOfNums y).size) = False := eq_false (Nat.not_lt.2 hsz)
        have p11 := eq_true h0
        have q11 := eq_true hlt
        have hx11 := bt_at s x8
        clear hy hsz hlt h0 hs
        go_wp2_with (first | ((with_reducible refine gate_dst (N := 53) rfl ?_); refine Kd.R_lit (Kd.int .u8) _ 5 ?hg (N := 53) ?hd (xs := ([((Int.tmod (bt s x8) 95) + 32) % 256] : List Int)) (inner := [.int .u8 (((Int.tmod (bt s x8) 95) + 32) % 256)]) (ok := fun _ => True) (okp := fun _ => True) ?hr ?hp (fun _ hk => hk) trivial (Below.refl _ _) (Nat.le_refl _) (by simp) ?_; (case hd => rfl); (case hg => rfl); (case hr => first | (go_simp; done) | (go_simp; rfl)); (case hp => exact (Reps.one (show Kd.M (Kd.int .u8) _ _ _ (((Int.tmod (bt s x8) 95) + 32) % 256) [.int .u8 (((Int.tmod (bt s x8) 95) + 32) % 256)] from rfl) (Reps.none _ _))); intro v138 w13 ho14 hb hg_ hnew_; clear hg_ hnew_; (first | rw [← Ny.out] at ho14 | (simp only [Int.reduceToNat] at ho14; rw [← Ny.out] at ho14)); have n0_ := Aside0.mk (Kd.R_lower ho14 (below_size (by repeat (first | (with_reducible first | exact HB.out | apply below_alloc | apply pw_below_drewN | apply below_drew1) | exact HB.out)))); have n1_ := Aside0.mk (below_step (by repeat (first | (with_reducible first | exact HB.out | apply below_alloc | apply pw_below_drewN | apply below_drew1) | exact HB.out)) hb); clear HB; have HO139 := n0_; have HB := n1_; clear n0_ n1_; clear hb ho14; have hcv15 := own_string (P := Tryd.prog) Tryd.underlying23 Tryd.underlying5 Tryd.underlying9 (Kd.own_of_R HO139.out)))
        go_roundg (gk - 1)
        case measure => obtain ⟨j, h1, h2, _⟩ := HJ.out; have := of_decide_eq_true c9b0; omega
        case rel => exact ⟨x7 ++ strOfNums y, wrap64 (x8 + 1), (by first | rfl | (simp; done) | (simp [*]; done)), (by first | rfl | (simp; done) | (simp [*]; done)), ⟨by
          obtain ⟨j, h1, h2, h3⟩ := HJ.out
          have hlt := of_decide_eq_true c9b0
          have hs := HS.out
          refine ⟨j + 1, by unfold wrap64; omega, by omega, ?_⟩
          rw [h3, Ny.out, h1]
          exact endT_snoc s j (by omega)⟩, HB⟩
      · have c9b0 : decide (x8 < (s.size : Int)) = false := decide_eq_false hlt
        have HT : Aside0 (x7 = endT s.data.toList s.size) := ⟨by
          obtain ⟨j, h1, h2, h3⟩ := HJ.out
          have : j = s.size := by omega
          rw [h3, this]⟩
        clear HJ hlt hs
        obtain ⟨E, hE⟩ : ∃ E, Utf8.encode c = E := ⟨_, rfl⟩
        obtain ⟨nE, hn⟩ : ∃ n, E.size = n := ⟨_, rfl⟩
        have hEn : (enc c).length = nE := by rw [← hn, ← hE]; exact Array.length_toList
        have hlong := enc_long (n := c) (by have h1 := HC.out.1; have h2 := HC.out.2.1; have h3 := HC.out.2.2.1; unfold Fine; omega) HC.out.1
        have hE2 : 2 ≤ nE := by omega
        have hE4 : nE ≤ 4 := by omega
        have HEn := Aside0.mk hEn
        clear hEn hlong
        have hk0 := hk.1
        have hk1 := hk.2
        have hz : ¬ (nE : Int) - 1 = 0 := by omega
        clear hk
        go_upto_region 10 with (go_at_call 11; refine (new_calls _).mono ?_; rintro e w2 ⟨rfl, hd, hb⟩; have HD2 := Aside0.mk hd; have HB2 := Aside0.mk hb; clear hd hb)
        have HW3 : Aside0 (Below wr.heap.size wr (Lib.bytesWorld w2 5 E)) := ⟨HB2.out.trans ((bytes_below (Below.refl w2.heap.size w2) (Nat.le_refl _) 5 E).mono HB2.out.size)⟩
        have hq3 : w2.heap.size < (Lib.bytesWorld w2 5 E).heap.size := by rw [Lib.bytesWorld_size]; omega
        have HD3 : Aside0 (Dec wr.heap.size (fun q => q = w2.heap.size) wr.heap.size newS (Lib.bytesWorld w2 5 E)) := ⟨(HD2.out.more (bytes_below (Below.refl w2.heap.size w2) (Nat.le_refl _) 5 E)).less fun q hq => .inr (by rw [hq]; exact ⟨Nat.le_refl _, hq3⟩)⟩
        have HE3 : Aside0 (∀ j, j < nE → (Lib.bytesWorld w2 5 E).cell? ⟨w2.heap.size, 0 + j, none⟩ = some (.int .u8 (E.data.toList.getD j 0).toNat)) := ⟨fun j hj => by rw [Nat.zero_add, Lib.bytesWorld_cell w2 5 E j (by omega)]⟩
        have hcE : nE ≤ grownCap w2 nE 0 5 := grownCap_ge w2 _ _ _
        have HB3 : Aside0 (Below w.heap.size w (Lib.bytesWorld w2 5 E)) := ⟨HB.out.trans (HW3.out.mono HB.out.size)⟩
        have HBB : Aside0 (wr.heap.size ≤ (Lib.bytesWorld w2 5 E).heap.size ∧ 2 ≤ wr.heap.size ∧ w.heap.size ≤ wr.heap.size) := ⟨HW3.out.size, Nat.le_trans HL.out.size HB.out.size, HB.out.size⟩
        clear HD2 HB2 HW3 HB
        generalize Lib.bytesWorld w2 5 E = w3 at HD3 HE3 HB3 HBB hq3 ⊢
        generalize grownCap w2 nE 0 5 = cE at hcE ⊢
        generalize w2.heap.size = q2 at HD3 HE3 hq3 ⊢
        generalize wr.heap.size = B at HD3 HBB ⊢
        clear c9b0
        obtain ⟨n1, hn1, h11, h12⟩ : ∃ n1 : Nat, 1 + k % ((nE : Int) - 1) = (n1 : Int) ∧ 1 ≤ n1 ∧ n1 < nE := by
          have := Int.emod_nonneg k (b := (nE : Int) - 1) hz
          have := Int.emod_lt_of_pos k (b := (nE : Int) - 1) (by omega)
          exact ⟨(1 + k % ((nE : Int) - 1)).toNat, by omega, by omega, by omega⟩
        obtain ⟨T, hT⟩ : ∃ T, T = x7.data.toList := ⟨_, rfl⟩
        obtain ⟨nT, hnT⟩ : ∃ n, x7.size = n := ⟨_, rfl⟩
        have hTl : T.length = nT := by rw [hT, Array.length_toList]; exact hnT
        have hT500 : nT ≤ 500 := by
          have := endT_size s.data.toList s.size
          rw [← HT.out, hnT] at this
          have := HS.out
          omega
        have hcT := grownCap_ge w3 nT 0 5
        have hw4 : Below w3.heap.size w3 (Lib.bytesWorld w3 5 x7) := bytes_below (Below.refl w3.heap.size w3) (Nat.le_refl _) 5 x7
        have hq4 : w3.heap.size < (Lib.bytesWorld w3 5 x7).heap.size := by rw [Lib.bytesWorld_size]; omega
        have hl0 : newS.out.length = 0 := rfl
        have hl1 : newS.op.length = 0 := rfl
        have hf1 := feed_calls (A := some ⟨w3.heap.size, 0, none⟩) (cap := grownCap w3 nT 0 5) T (HD3.out.more hw4) good_new (HL.out.below (HB3.out.trans (hw4.mono HB3.out.size)) HL.out.size) HBB.out.2.1 (Nat.le_trans HBB.out.1 hw4.size)
          (by omega) (fun _ => ⟨w3.heap.size, 0, rfl, .inr ⟨.inr ⟨Nat.le_refl _, hq4⟩, hq4⟩, fun j hj => by rw [Nat.zero_add, Lib.bytesWorld_cell w3 5 x7 j (by omega), hT]⟩) (by omega)
        rw [hTl] at hf1
        have HF1 := Aside0.mk hf1
        have HW4 := Aside0.mk hw4
        have HE4 : Aside0 (∀ j, j < nE → (Lib.bytesWorld w3 5 x7).cell? ⟨q2, 0 + j, none⟩ = some (.int .u8 (E.data.toList.getD j 0).toNat)) := ⟨fun j hj => (hw4.cell (p := ⟨q2, 0 + j, none⟩) hq3).trans (HE3.out j hj)⟩
        have hgood1 := Aside0.mk (good_feed T newS good_new)
        have HTe := Aside0.mk hT
        have HTl := Aside0.mk hTl
        have HnT := Aside0.mk hnT
        have HhE := Aside0.mk hE
        have Hhn := Aside0.mk hn
        clear hf1 hw4 hq4 hcT hT hTl hl0 hl1
        go_wp2_with fail
        refine HF1.out.mono ?_
        rintro e w5 ⟨rfl, h5, k5⟩
        have HD5 := Aside0.mk h5
        have HK5 := Aside0.mk k5
        clear h5 k5
        obtain ⟨L, hLe⟩ : ∃ L, L = E.data.toList := ⟨_, rfl⟩
        have hLl : L.length = nE := by rw [hLe, Array.length_toList]; exact Hhn.out
        rw [← hLe] at HE4
        have hq5 : q2 < (Lib.bytesWorld w3 5 x7).heap.size := by have := HW4.out.size; omega
        have hg1 := hgood1.out.2
        rw [HTl.out] at hg1
        have hl0 : newS.out.length = 0 := rfl
        have hl1 : newS.op.length = 0 := rfl
        have hL5 := (HL.out.below (HB3.out.trans (HW4.out.mono HB3.out.size)) HL.out.size).keeps HK5.out HBB.out.2.1
        have hBw5 : B ≤ w5.heap.size := Nat.le_trans (Nat.le_trans HBB.out.1 HW4.out.size) HK5.out.size
        have ht1 : (L.take n1).length = n1 := by rw [List.length_take]; omega
        have hf2 := feed_calls (A := some ⟨q2, 0, none⟩) (cap := cE) (L.take n1) HD5.out hgood1.out.1 hL5 HBB.out.2.1 hBw5 (by omega)
          (fun _ => ⟨q2, 0, rfl, .inr ⟨.inl rfl, Nat.lt_of_lt_of_le hq5 HK5.out.size⟩, fun j hj => by
            rw [HK5.out.cellQ (p := ⟨q2, 0 + j, none⟩) (.inl rfl) hq5, HE4.out j (by omega)]
            rw [List.getD_eq_getElem?_getD, List.getD_eq_getElem?_getD, List.getElem?_take, if_pos (by omega)]⟩) (by omega)
        rw [ht1] at hf2
        have HF2 := Aside0.mk hf2
        have hgood2 := Aside0.mk (good_feed (L.take n1) (feedS newS T) hgood1.out.1)
        have HL5 := Aside0.mk hL5
        have HLe := Aside0.mk hLe
        have HLl := Aside0.mk hLl
        have Ht1 := Aside0.mk ht1
        have Hhn1 := Aside0.mk hn1
        clear hf2 hg1 hl0 hl1 hL5 ht1 hLl hLe hn1
        go_wp2_with fail
        refine HF2.out.mono ?_
        rintro e w6 ⟨rfl, h6, k6⟩
        have hg2 := hgood2.out.2
        have hg1 := hgood1.out.2
        have hl0 : newS.out.length = 0 := rfl
        have hl1 : newS.op.length = 0 := rfl
        have hl2 := HTl.out
        have hl3 := Ht1.out
        have hL6 := HL5.out.keeps k6 HBB.out.2.1
        have hBw6 : B ≤ w6.heap.size := Nat.le_trans hBw5 k6.size
        have HF3 := Aside0.mk (finish_calls h6 hL6 HBB.out.2.1 hBw6 (by omega))
        have HK6 := Aside0.mk (HK5.out.trans k6)
        have HL6 := Aside0.mk hL6
        clear h6 k6 hg2 hg1 hl0 hl1 hl2 hl3 hL6
        go_wp2_with fail
        refine HF3.out.mono ?_
        rintro e w7 ⟨rfl, k7, h7⟩
        have hg2 := hgood2.out.2
        have hg1 := hgood1.out.2
        have hl0 : newS.out.length = 0 := rfl
        have hl1 : newS.op.length = 0 := rfl
        have hl2 := HTl.out
        have hl3 := Ht1.out
        have hL7 := HL6.out.keeps k7 HBB.out.2.1
        have hBw7 : B ≤ w7.heap.size := Nat.le_trans hBw6 k7.size
        have HK7 := Aside0.mk (HK6.out.trans k7)
        have ht2 : (L.drop n1).length = nE - n1 := by rw [List.length_drop, HLl.out]
        have hf4 := feed_calls (A := some ⟨q2, n1, none⟩) (cap := cE - n1) (L.drop n1) h7 hgood2.out.1 hL7 HBB.out.2.1 hBw7 (by omega)
          (fun _ => ⟨q2, n1, rfl, .inr ⟨.inl rfl, Nat.lt_of_lt_of_le hq5 HK7.out.size⟩, fun j hj => by
            have hj' := hj
            rw [ht2] at hj'
            have hc := HE4.out (n1 + j) (by omega)
            rw [Nat.zero_add] at hc
            rw [HK7.out.cellQ (p := ⟨q2, n1 + j, none⟩) (.inl rfl) hq5, hc]
            rw [List.getD_eq_getElem?_getD, List.getD_eq_getElem?_getD, List.getElem?_drop]⟩) (by omega)
        rw [ht2] at hf4
        have HF4 := Aside0.mk hf4
        have HL7 := Aside0.mk hL7
        have hgood3 := Aside0.mk (good_feed (L.drop n1) (feedS (feedS newS T) (L.take n1)) hgood2.out.1)
        have Ht2 := Aside0.mk ht2
        obtain ⟨O, hO⟩ : ∃ O : ByteArray, O = ⟨(finishS (feedS (feedS newS T) (L.take n1))).toArray⟩ := ⟨_, rfl⟩
        rw [← hO]
        have HO := Aside0.mk hO
        have hkc : KeptR c := by have h1 := HC.out.1; have h2 := HC.out.2.1; have h3 := HC.out.2.2.1; have h4 := HC.out.2.2.2; unfold KeptR Fine; omega
        have hTb : ∀ b ∈ T, 32 ≤ b.toNat ∧ b.toNat < 127 := by
          intro b hb
          rw [HTe.out, HT.out] at hb
          unfold endT at hb
          obtain ⟨d, _, rfl⟩ := List.mem_map.1 hb
          unfold seenB
          rw [UInt8.toNat_ofNat']
          omega
        have hLc : L = enc c := by rw [HLe.out, ← HhE.out]; rfl
        have hx7 : x7 = ⟨T.toArray⟩ := by rw [HTe.out]
        have hone : Aside0 (O = x7 ++ ⟨#[239, 191, 189]⟩) := ⟨by
          have h1 := ends_one hTb hkc n1 h11 (by rw [HEn.out]; exact h12)
          unfold decodeL feedS at h1
          rw [List.foldl_append] at h1
          rw [HO.out, hx7, show (⟨#[239, 191, 189]⟩ : ByteArray) = ⟨(fffd.data.toList).toArray⟩ from rfl, str_app, hLc, ← h1]
          rfl⟩
        have htwo0 : Aside0 ((⟨(finishS (feedS (feedS (feedS newS T) (L.take n1)) (L.drop n1))).toArray⟩ : ByteArray) = x7 ++ E) := ⟨by
          have h1 := ends_two hTb hkc
          have he : E = ⟨(enc c).toArray⟩ := by rw [← HhE.out]; rfl
          unfold decodeL feedS at h1
          rw [List.foldl_append] at h1
          rw [hx7, he, str_app, ← h1, hLc]
          unfold feedS
          rw [← List.foldl_append, List.take_append_drop]⟩
        clear hkc hTb hLc hx7
        clear h7 k7 hg2 hg1 hl0 hl1 hl2 hl3 hL7 hf4 ht2 hO
        go_wp2_with fail
        refine HF4.out.mono ?_
        rintro e w8 ⟨rfl, h8, k8⟩
        have hg3 := hgood3.out.2
        have hg2 := hgood2.out.2
        have hg1 := hgood1.out.2
        have hl0 : newS.out.length = 0 := rfl
        have hl1 : newS.op.length = 0 := rfl
        have hl2 := HTl.out
        have hl3 := Ht1.out
        have hl4 := Ht2.out
        have hL8 := HL7.out.keeps k8 HBB.out.2.1
        have hBw8 : B ≤ w8.heap.size := Nat.le_trans hBw7 k8.size
        have HF5 := Aside0.mk (finish_calls h8 hL8 HBB.out.2.1 hBw8 (by omega))
        have HK8 := Aside0.mk (HK7.out.trans k8)
        obtain ⟨O2, hO2⟩ : ∃ O : ByteArray, O = ⟨(finishS (feedS (feedS (feedS newS T) (L.take n1)) (L.drop n1))).toArray⟩ := ⟨_, rfl⟩
        rw [← hO2] at HF5
        have htwo : Aside0 (O2 = x7 ++ E) := ⟨hO2.trans htwo0.out⟩
        clear hO2
        have hb1 : (O.toList == (x7 ++ (⟨#[239, 191, 189]⟩ : ByteArray)).toList) = true := by rw [hone.out, beq_self_eq_true]
        have hb2 : (O2.toList == (x7 ++ E).toList) = true := by rw [htwo.out, beq_self_eq_true]
        have hs1 : x7.size + 3 ≤ 9223372036854775807 := by rw [HnT.out]; omega
        have hs2 : x7.size + E.size ≤ 9223372036854775807 := by rw [HnT.out, Hhn.out]; omega
        clear h8 k8 hg3 hg2 hg1 hl0 hl1 hl2 hl3 hl4 hL8
        go_wp2_with fail
        refine HF5.out.mono ?_
        rintro e w9 ⟨rfl, k9, _⟩
        have HF : Aside0 (Below w.heap.size w w9) := ⟨(HB3.out.trans (HW4.out.mono HB3.out.size)).trans ((HK8.out.trans k9).low.mono HBB.out.2.2)⟩
        clear k9
        go_wp2_with fail
        go_ret
        exact ⟨rfl, HF.out⟩

theorem ends_calls (s : ByteArray) (c k : Int) (w : World) (hL : LaidW w) (hk : 0 ≤ k ∧ k ≤ 255) :
    Calls Tryd.prog 3 #[.string s, .int .i32 c, .int .u8 k] w fun e w' => e = .returned (.bool true) ∧ Below w.heap.size w w' := by
  by_cases hs : s.size ≤ 500
  · by_cases hc : goodC c
    · exact ends_good s c k w hL hs hc hk
    · exact ends_bad s c k w hL (.inr ⟨hs, hc⟩)
  · exact ends_bad s c k w hL (.inl (by omega))
theorem u8_range {n : Int} (h : (Lit.int .u8 n).wf = true) : 0 ≤ n ∧ n ≤ 255 := by
  unfold Lit.wf at h
  rw [Bool.and_eq_true, decide_eq_true_eq, decide_eq_true_eq] at h
  have e1 : IntKind.u8.min = 0 := by decide
  have e2 : IntKind.u8.max = 255 := by decide
  omega
end Go.Proofs.YtoejbjmdcokojaaDoor.Hand
