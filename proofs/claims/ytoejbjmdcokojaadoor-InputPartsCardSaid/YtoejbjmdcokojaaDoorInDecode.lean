/- By hand: the whole of Decode, and the chapter's examples. -/
import Derived.Test.YtoejbjmdcokojaaDoorInTell
import Derived.Test.YtoejbjmdcokojaaDoorShelf
namespace Go.Proofs.YtoejbjmdcokojaaDoor.Hand
set_option linter.unusedVariables false
set_option linter.unusedSimpArgs false
open Go Go.RowKit Go.Proofs.YtoejbjmdcokojaaDoorW.PrintWords

def trimMark (l : List UInt8) : List UInt8 := Lib.trimPrefix l [239, 187, 191]
def normL (l : List UInt8) : List UInt8 := Lib.replaceAll (Lib.replaceAll l [13, 10] [10]) [13] [10]
def endS (s : DS) : List UInt8 := if 0 < s.k then s.out ++ fffd.data.toList else s.out
def finishS (s : DS) : List UInt8 := normL (trimMark (endS s))
def newS : DS := { out := [], op := [], k := 0, lo := 0, hi := 0 }
def decodeL (l : List UInt8) : List UInt8 := finishS (feedS newS l)
theorem good_new : Good newS := ⟨by decide, by decide, by simp [newS]⟩
theorem str_data (l : List UInt8) : (⟨l.toArray⟩ : ByteArray).data.toList = l := by simp
theorem str_size (l : List UInt8) : (⟨l.toArray⟩ : ByteArray).size = l.length := by simp [ByteArray.size]
theorem str_app (a b : List UInt8) : (⟨a.toArray⟩ : ByteArray) ++ ⟨b.toArray⟩ = ⟨(a ++ b).toArray⟩ := by
  apply ByteArray.ext
  simp [ByteArray.data_append]

theorem trim_len (l : List UInt8) : (trimMark l).length ≤ l.length := by
  unfold trimMark Lib.trimPrefix
  split
  · simp
  · exact Nat.le_refl _

theorem replaceK_len (old new : List UInt8) : ∀ (k : Nat) (s : List UInt8), (Lib.replaceK old new k s).length ≤ s.length + k * new.length := by
  intro k
  induction k with
  | zero => intro s; simp [Lib.replaceK]
  | succ k ih =>
    intro s
    rw [Lib.replaceK]
    split
    · omega
    · rw [List.length_append, List.length_append, List.length_take]
      have h := ih (s.drop ((Lib.index s old).toNat + old.length))
      rw [List.length_drop] at h
      rw [Nat.succ_mul]
      omega
theorem replaceAll_len (s old : List UInt8) : (Lib.replaceAll s old [10]).length ≤ 2 * s.length + 1 := by
  unfold Lib.replaceAll Lib.replace
  split
  · omega
  · have h := replaceK_len old [10] (Lib.replaceNum s old (-1)) s
    have h2 := Lib.count_le s old
    have h3 : Lib.replaceNum s old (-1) = Lib.count s old := by unfold Lib.replaceNum; rw [if_pos (.inl (by decide))]
    rw [h3] at h ⊢
    simp only [List.length_cons, List.length_nil, Nat.zero_add, Nat.mul_one] at h
    omega
theorem countB_bound (s old : ByteArray) : Lib.countB s old * 1 ≤ s.size + 1 := by
  rw [Nat.mul_one]
  have h := Lib.count_le s.data.toList old.data.toList
  rw [Array.length_toList] at h
  exact h

theorem LaidW.cell {w : World} (h : LaidW w) : ∃ m, w.cell? ⟨1, 0, none⟩ = some (.int .i64 m) := h.2.2

set_option maxHeartbeats 800000 in
set_option maxRecDepth 100000 in
theorem finish_calls {B b : Nat} {Q : Nat → Prop} {s : DS} {w : World} (h : Dec B Q b s w) (hL : LaidW w) (hB2 : 2 ≤ B) (hBw : B ≤ w.heap.size) (hlen : s.out.length ≤ 8388608) :
    Calls Tryd.prog 13 #[.pointer (some ⟨b, 0, none⟩)] w fun e w' => e = .returned (.string ⟨(finishS s).toArray⟩) ∧ Keeps B Q w w' ∧ Dec B Q b s w' := by
  obtain ⟨p, v, o, hd, ho⟩ := h
  have HO := Aside0.mk ho
  have d3 : w.cell? ⟨b, 3, none⟩ = some (.int .i64 s.k) := hd.cell 3
  have HT := Aside0.mk (tell_calls hd hBw)
  have HL := Aside0.mk hL
  clear hd ho hL
  go_enter Tryd.func13, Tryd.ntmps13
  go_wp2_with fail
  refine HT.out.mono ?_
  rintro e w1 ⟨rfl, hb1, hd1, hk1⟩
  have e3 : w1.cell? ⟨b, 3, none⟩ = some (.int .i64 s.k) := hd1.cell 3
  have HDc : Aside0 (Dec B Q b s w1) := ⟨⟨p, v, o, hd1, by
    rcases HO.out with h | ⟨h1, h2, g, cap, h3, h4, h5⟩
    · exact .inl h
    · refine .inr ⟨h1, h2, g, cap, h3, ?_, h5⟩
      have hg := (h4.lt g (by rw [h3]; rfl)).2
      have hk := hk1 g hg h5.1
      obtain ⟨q1, q2⟩ := h4
      refine ⟨q1, ?_⟩
      rcases q2 with q2 | ⟨g', cap', cur, q3, q4, q5, q6⟩
      · exact .inl q2
      · have hgg : g' = g := by rw [h3] at q3; injection q3 with q3 _ _; injection q3 with q3; exact (congrArg Addr.block q3).symm
        refine .inr ⟨g', cap', cur, q3, q4, ?_, q6⟩
        rw [hgg, hk, ← hgg]
        exact q5⟩⟩
  clear hd1
  have hL1 := HL.out.keeps hb1 hB2
  obtain ⟨m1, hm1⟩ := hL1.cell
  have hB1 := Nat.le_trans hBw hb1.size
  have hz : (trimMark (endS s)).length ≤ 8388611 := by
    have := trim_len (endS s)
    have h2 : (endS s).length ≤ s.out.length + 3 := by
      unfold endS; split
      · rw [List.length_append]; have : fffd.data.toList.length = 3 := rfl; omega
      · omega
    omega
  have ht : ∀ W, Calls Tryd.prog 18 #[.string ⟨(endS s).toArray⟩, .string ⟨#[239, 187, 191]⟩] W fun e w' => e = .returned (.string ⟨(trimMark (endS s)).toArray⟩) ∧ w' = W := by
    intro W
    have h := Tryd.strings_TrimPrefix ⟨(endS s).toArray⟩ ⟨#[239, 187, 191]⟩ W
    simp only [str_data] at h
    exact h
  have hr1 := Tryd.strings_ReplaceAll ⟨(trimMark (endS s)).toArray⟩ ⟨#[13, 10]⟩ ⟨#[10]⟩ m1 w1 (by rw [str_size]; omega) hm1 (by decide) (by
    have := countB_bound ⟨(trimMark (endS s)).toArray⟩ ⟨#[13, 10]⟩
    have h1 : (⟨#[10]⟩ : ByteArray).size = 1 := rfl
    rw [h1]; rw [str_size] at this ⊢; omega)
  simp only [str_data] at hr1
  have H1 := Aside0.mk hr1
  have HTm := Aside0.mk ht
  have HB1 := Aside0.mk hb1
  have HL1 := Aside0.mk hL1
  have hend : (if 0 < s.k then True else True) := by split <;> trivial
  clear hr1 ht hb1 hL1 hk1 hend
  have fin : Calls Tryd.prog 19 #[.string ⟨(trimMark (endS s)).toArray⟩, .string ⟨#[13, 10]⟩, .string ⟨#[10]⟩] w1 fun e w' => e = .returned (.string ⟨(Lib.replaceAll (trimMark (endS s)) [13, 10] [10]).toArray⟩) ∧ Below w1.heap.size w1 w' := H1.out
  have FIN := Aside0.mk fin
  clear fin H1
  have last : ∀ w2, Below w1.heap.size w1 w2 → Calls Tryd.prog 19 #[.string ⟨(Lib.replaceAll (trimMark (endS s)) [13, 10] [10]).toArray⟩, .string ⟨#[13]⟩, .string ⟨#[10]⟩] w2 fun e w' => e = .returned (.string ⟨(finishS s).toArray⟩) ∧ Keeps B Q w w' ∧ Dec B Q b s w' := by
    intro w2 hb2
    have hb2' : Keeps B Q w w2 := HB1.out.trans (Keeps.new hb2 hB1)
    obtain ⟨m2, hm2⟩ := (HL.out.keeps hb2' hB2).cell
    have hl2 := replaceAll_len (trimMark (endS s)) [13, 10]
    have hr2 := Tryd.strings_ReplaceAll ⟨(Lib.replaceAll (trimMark (endS s)) [13, 10] [10]).toArray⟩ ⟨#[13]⟩ ⟨#[10]⟩ m2 w2 (by rw [str_size]; omega) hm2 (by decide) (by
      have := countB_bound ⟨(Lib.replaceAll (trimMark (endS s)) [13, 10] [10]).toArray⟩ ⟨#[13]⟩
      have h1 : (⟨#[10]⟩ : ByteArray).size = 1 := rfl
      rw [h1]; rw [str_size] at this ⊢; omega)
    simp only [str_data] at hr2
    refine hr2.mono ?_
    rintro e w3 ⟨he, hb3⟩
    exact ⟨he, hb2'.trans (Keeps.new hb3 (Nat.le_trans hB1 hb2.size)), (HDc.out.below hb2).below hb3⟩
  have LAST := Aside0.mk last
  clear last hz hm1
  by_cases hk : 0 < s.k
  · have hk1 : (0 : Int) < s.k := by omega
    have he : (⟨s.out.toArray⟩ : ByteArray) ++ ⟨#[239, 191, 189]⟩ = ⟨(endS s).toArray⟩ := by unfold endS; rw [if_pos hk]; exact str_app s.out fffd.data.toList
    go_wp2_with (first | (go_at_call 18; (with_reducible refine (HTm.out _).mono ?_); rintro e w2 ⟨rfl, hw2⟩; rw [hw2]; clear hw2) | (go_at_call 19; (with_reducible refine FIN.out.mono ?_); rintro e w2 ⟨rfl, hb2⟩))
    refine (LAST.out _ hb2).mono ?_
    rintro e w3 ⟨rfl, hb3⟩
    go_wp2
    go_ret
    exact ⟨rfl, hb3⟩
  · have hk1 : ¬ (0 : Int) < s.k := by omega
    have he : (⟨s.out.toArray⟩ : ByteArray) = ⟨(endS s).toArray⟩ := by unfold endS; rw [if_neg hk]
    have HTm2 : Aside0 (∀ W, Calls Tryd.prog 18 #[.string ⟨s.out.toArray⟩, .string ⟨#[239, 187, 191]⟩] W fun e w' => e = .returned (.string ⟨(trimMark (endS s)).toArray⟩) ∧ w' = W) := ⟨by rw [he]; exact HTm.out⟩
    clear he HTm
    go_wp2_with (first | (go_at_call 18; (with_reducible refine (HTm2.out _).mono ?_); rintro e w2 ⟨rfl, hw2⟩; rw [hw2]; clear hw2) | (go_at_call 19; (with_reducible refine FIN.out.mono ?_); rintro e w2 ⟨rfl, hb2⟩))
    refine (LAST.out _ hb2).mono ?_
    rintro e w3 ⟨rfl, hb3⟩
    go_wp2
    go_ret
    exact ⟨rfl, hb3⟩

theorem new_calls (w : World) : Calls Tryd.prog 11 #[] w fun e w' => e = .returned (.pointer (some ⟨w.heap.size, 0, none⟩)) ∧ Dec w.heap.size (fun _ => False) w.heap.size newS w' ∧ Below w.heap.size w w' := by
  have HW : Aside0 (Dec w.heap.size (fun _ => False) w.heap.size newS (w.alloc (.cells #[.pointer none, .slice none 0 0, .slice none 0 0, .int .i64 0, .int .u8 0, .int .u8 0] 42))) :=
    ⟨_, .slice none 0 0, .slice none 0 0, ⟨⟨Nat.le_refl _, fun h => h⟩, heap_alloc_new _ _, .inl rfl, World.ownsRowF_nil _ _ _ _, fun _ h => h.elim, fun _ h => by cases h⟩, .inl ⟨rfl, rfl, rfl⟩⟩
  go_enter Tryd.func11, Tryd.ntmps11
  go_wp2
  go_ret
  exact ⟨rfl, HW.out, below_alloc (Below.refl _ _) _⟩

set_option maxHeartbeats 800000 in
set_option maxRecDepth 100000 in
theorem decode_calls {cap : Nat} {A : Option Addr} {w : World} (l : List UInt8) (hL : LaidW w) (hlen : l.length ≤ 1048576) (hc : 0 < l.length → ∃ ab ao, A = some ⟨ab, ao, none⟩ ∧ ab < w.heap.size ∧ ∀ j, j < l.length → w.cell? ⟨ab, ao + j, none⟩ = some (.int .u8 (l.getD j 0).toNat)) (hcap : l.length ≤ cap) :
    Calls Tryd.prog 14 #[.slice A l.length cap] w fun e w' => e = .returned (.string ⟨(decodeL l).toArray⟩) ∧ Below w.heap.size w w' := by
  have hB2 := hL.size
  have HL := Aside0.mk hL
  have HC := Aside0.mk hc
  obtain ⟨n, hn⟩ : ∃ n, n = l.length := ⟨_, rfl⟩
  have hgf := good_feed l newS good_new
  have hfin : (feedS newS l).out.length ≤ 8388608 := by
    have := hgf.2
    have h1 : newS.out.length = 0 := rfl
    have h2 : newS.op.length = 0 := rfl
    omega
  clear hL hc hgf
  go_enter Tryd.func14, Tryd.ntmps14
  go_wp2_with fail
  refine (new_calls w).mono ?_
  rintro e w1 ⟨rfl, h1, hb1⟩
  have hfd := feed_calls (A := A) (cap := cap) l h1 good_new (HL.out.below hb1 hB2) hB2 hb1.size (by have h1 : newS.out.length = 0 := rfl; have h2 : newS.op.length = 0 := rfl; omega) (fun h0 => by
    obtain ⟨ab, ao, e, hab, hc⟩ := HC.out h0
    exact ⟨ab, ao, e, .inl hab, fun j hj => by rw [hb1.cell (show ab < w.heap.size from hab)]; exact hc j hj⟩) hcap
  have HF := Aside0.mk hfd
  have HB1 := Aside0.mk hb1
  clear hfd hb1 h1
  go_wp2_with fail
  refine HF.out.mono ?_
  rintro e w2 ⟨rfl, h2, hb2⟩
  have hb2' := HB1.out.trans hb2.low
  have hfi := finish_calls h2 (HL.out.below hb2' hB2) hB2 hb2'.size hfin
  have HFi := Aside0.mk hfi
  have HB2 := Aside0.mk hb2'
  clear hfi hb2 hb2' h2
  go_wp2_with fail
  refine HFi.out.mono ?_
  rintro e w3 ⟨rfl, hb3, _⟩
  have HB3 := Aside0.mk (HB2.out.trans hb3.low)
  clear hb3
  go_wp2
  go_ret
  exact ⟨rfl, HB3.out⟩

theorem lit_cells (w : World) (l : List UInt8) : ∀ j, j < l.length → (w.alloc (.cells (bytesV l).toArray 5)).cell? ⟨w.heap.size, 0 + j, none⟩ = some (.int .u8 (l.getD j 0).toNat) := by
  intro j hj
  rw [World.cell?_alloc_new, Nat.zero_add, ← Array.getElem?_toList]
  simp [bytesV, List.getElem?_eq_getElem hj, List.getD_eq_getElem?_getD]
theorem decode_lit {w : World} (l : List UInt8) (hL : LaidW w) (hlen : l.length ≤ 1048576) :
    Calls Tryd.prog 14 #[.slice (some ⟨w.heap.size, 0, none⟩) l.length l.length] (w.alloc (.cells (bytesV l).toArray 5)) fun e w' => e = .returned (.string ⟨(decodeL l).toArray⟩) ∧ Below w.heap.size w w' := by
  have hb : Below w.heap.size w (w.alloc (.cells (bytesV l).toArray 5)) := below_alloc (Below.refl _ _) _
  refine (decode_calls l (hL.below hb hL.size) hlen (fun _ => ⟨w.heap.size, 0, rfl, by simp, lit_cells w l⟩) (Nat.le_refl _)).mono ?_
  rintro e w' ⟨he, hb2⟩
  exact ⟨he, hb.trans (hb2.mono (by simp))⟩
theorem known1 : decodeL [97, 195, 98, 13, 10] = [97, 239, 191, 189, 98, 10] := by kernel_rfl
theorem known2 : decodeL [239, 187, 191, 120] = [120] := by kernel_rfl
theorem known3 : finishS newS = [] := by kernel_rfl

set_option maxHeartbeats 800000 in
set_option maxRecDepth 100000 in
theorem known_calls (w : World) (hL : LaidW w) : Calls Tryd.prog 10 #[] w fun e w' => e = .returned (.bool true) ∧ Below w.heap.size w w' := by
  have hB2 := hL.size
  have HL := Aside0.mk hL
  clear hL
  have hnn : ∀ (a : Addr) (w : World), (binOp .neq 24 (.pointer (some a)) (.pointer none)).run Tryd.prog w = .ok (.bool true) w := fun _ _ => by kernel_rfl
  go_enter Tryd.func10, Tryd.ntmps10
  go_wp2_with fail
  refine (new_calls w).mono ?_
  rintro e w1 ⟨rfl, h1, hb1⟩
  have hL1 := HL.out.below hb1 hB2
  have c1 := decode_lit [97, 195, 98, 13, 10] hL1 (by decide)
  rw [known1] at c1
  have C1 := Aside0.mk (show Calls Tryd.prog 14 #[.slice (some ⟨w1.heap.size, 0, none⟩) 5 5] (w1.alloc (.cells #[.int .u8 97, .int .u8 195, .int .u8 98, .int .u8 13, .int .u8 10] 5)) fun e w' => e = .returned (.string ⟨#[97, 239, 191, 189, 98, 10]⟩) ∧ Below w1.heap.size w1 w' from c1)
  have H1 := Aside0.mk h1
  have HB1 := Aside0.mk hb1
  clear c1 h1 hb1 hL1
  go_wp2_with fail
  refine C1.out.mono ?_
  rintro e w2 ⟨rfl, hb2⟩
  have hb2' := HB1.out.trans (hb2.mono HB1.out.size)
  have h2 := H1.out.below hb2
  have hL2 := HL.out.below hb2' hB2
  have c2 := decode_lit [239, 187, 191, 120] hL2 (by decide)
  rw [known2] at c2
  have C2 := Aside0.mk (show Calls Tryd.prog 14 #[.slice (some ⟨w2.heap.size, 0, none⟩) 4 4] (w2.alloc (.cells #[.int .u8 239, .int .u8 187, .int .u8 191, .int .u8 120] 5)) fun e w' => e = .returned (.string ⟨#[120]⟩) ∧ Below w2.heap.size w2 w' from c2)
  have H2 := Aside0.mk h2
  have HB2 := Aside0.mk hb2'
  clear c2 h2 hb2 hb2' hL2
  go_wp2_with fail
  refine C2.out.mono ?_
  rintro e w3 ⟨rfl, hb3⟩
  have hb3' := HB2.out.trans (hb3.mono HB2.out.size)
  have h3 := H2.out.below hb3
  have c3 := finish_calls h3 (HL.out.below hb3' hB2) hB2 hb3'.size (by decide)
  rw [known3] at c3
  have C3 := Aside0.mk (show Calls Tryd.prog 13 #[.pointer (some ⟨w.heap.size, 0, none⟩)] w3 fun e w' => e = .returned (.string ⟨#[]⟩) ∧ Below w.heap.size w3 w' from c3.mono fun _ _ h => ⟨h.1, h.2.1.low⟩)
  have HB3 := Aside0.mk hb3'
  clear c3 h3 hb3 hb3'
  go_wp2_with fail
  refine C3.out.mono ?_
  rintro e w4 ⟨rfl, hb4⟩
  have HB4 := Aside0.mk (HB3.out.trans hb4)
  clear hb4
  go_wp2
  go_ret
  exact ⟨rfl, HB4.out⟩
end Go.Proofs.YtoejbjmdcokojaaDoor.Hand
