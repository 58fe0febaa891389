-- Written by wip/tools/gprint.py of this session, over the kit's print. Lean checks it.
import Derived.Test.YtijjfkjihifjpaaPx0
import Derived.Test.YtijjfkjihifjpaaPx6
import Derived.Test.YtijjfkjihifjpaaPx8
namespace Go.Proofs.Ytijjfkjihifjpaa.P
open Go.Proofs.Ytijjfkjihifjpaa.Hand
open Go.RowKit Go.Proofs.YtijjfkjihifjpaaW.PrintWords Go.Proofs.YtijjfkjihifjpaaW.PrintLast Go.Proofs.YtijjfkjihifjpaaW.PrintMore
attribute [local go_sem] max2_int min2_int max_two min_two max_three min_three max_four min_four   -- for this text's walks alone
attribute [local go_sem] Go.IntKind.wrap_u32
set_option linter.unusedVariables false
set_option linter.unusedSimpArgs false

/-! ### charref_All: function 11 (by hand) -/
theorem bld_size : (Try.prog.info? 40).map (·.size) = some 2 := by kernel_rfl
theorem bld_lies : liesAt Try.prog Try.prog.depth 40 (2 / Try.prog.cellsOf 40) 0 40 1 = true := by kernel_rfl
theorem byte_info : (Try.prog.info? 5).map (fun i => (i.zero, i.size, i.bytes)) = some (some (.int .u8 0), 1, 1) := by kernel_rfl
set_option maxHeartbeats 1000000 in
set_option maxRecDepth 100000 in
theorem bld_check_used (b : Nat) (w : World) (h0 : w.cell? ⟨b, 0, none⟩ = some (.pointer (some ⟨b, 0, none⟩))) :
    Calls Try.prog 27 #[.pointer (some ⟨b, 0, none⟩)] w fun e w' => e = .returned (.tuple #[]) ∧ w' = w := by
  obtain ⟨j, hj, _⟩ := Option.map_eq_some_iff.1 bld_size
  go_enter Try.func27, Try.ntmps27
  go_wp2
  rw [Lib.run_neq_ptr_same w _ Try.underlying37 hj]
  go_wp2
  go_end0
  exact ⟨rfl, rfl⟩
set_option maxHeartbeats 1000000 in
set_option maxRecDepth 100000 in
theorem bld_check_fresh (b : Nat) (w : World) (h0 : w.cell? ⟨b, 0, none⟩ = some (.pointer none)) (hsh : w.shape? b = some (40, 2)) (hfz : w.frozen? ⟨b, 0, none⟩ = false) :
    Calls Try.prog 27 #[.pointer (some ⟨b, 0, none⟩)] w fun e w' => e = .returned (.tuple #[]) ∧ w' = w.setCell ⟨b, 0, none⟩ (.pointer (some ⟨b, 0, none⟩)) := by
  obtain ⟨j, hj, hjs⟩ := Option.map_eq_some_iff.1 bld_size
  go_enter Try.func27, Try.ntmps27
  go_wp2_with fail
  rw [Lib.run_to_unsafe w ⟨b, 0, none⟩ Try.underlying37 Try.underlying65 hj (by rw [hjs]; decide) hsh (Nat.zero_lt_succ 1)]
  simp only [Result.andThen]
  rw [Oper.upon_value]
  go_wp2_with fail
  rw [run_callFunc_extern Try.func33 (by kernel_rfl) (by kernel_rfl) (by kernel_rfl) (e := Extern.AbiNoEscape.same) (by kernel_rfl)]
  rw [Lib.run_noEscape]
  simp only [Result.andThen]
  rw [Oper.upon_value]
  go_wp2_with fail
  rw [Lib.run_from_unsafe w ⟨b, 0, none⟩ Try.underlying65 Try.underlying37 hj hsh bld_lies]
  simp only [Result.andThen]
  rw [Oper.upon_value]
  go_wp2
  go_end0
  exact ⟨rfl, rfl⟩
theorem bld_check (B b : Nat) (bs : List Value) (w : World) (h : Lib.IsBuilder 40 5 B b bs w) :
    Calls Try.prog 27 #[.pointer (some ⟨b, 0, none⟩)] w fun e w' => e = .returned (.tuple #[]) ∧ (Lib.BuilderAt 40 5 B b (.pointer (some ⟨b, 0, none⟩)) bs w' ∧ Below B w w') := by
  rcases h with h | h
  · refine (bld_check_fresh b w h.cell0 h.shape h.frozen0).mono ?_
    rintro e w' ⟨rfl, rfl⟩
    exact ⟨rfl, h.used _, (Below.refl B w).setCell (p := ⟨b, 0, none⟩) h.1 _⟩
  · refine (bld_check_used b w h.cell0).mono ?_
    rintro e w' ⟨rfl, rfl⟩
    exact ⟨rfl, h, Below.refl B _⟩
set_option maxHeartbeats 2000000 in
set_option maxRecDepth 100000 in
theorem bld_byte (B b : Nat) (bs : List Value) (c : Int) (w : World) (h : Lib.IsBuilder 40 5 B b bs w) (hlen : bs.length + 1 ≤ 140737488355328) (hBw : B ≤ w.heap.size) :
    Calls Try.prog 17 #[.pointer (some ⟨b, 0, none⟩), .int .u8 c] w fun e w' => e = .returned .nilIface ∧ (Lib.IsBuilder 40 5 B b (bs ++ [.int .u8 c]) w' ∧ Below B w w') := by
  obtain ⟨i0, hi, hz0, hz1, hz2⟩ := info_parts byte_info
  go_enter Try.func17, Try.ntmps17
  go_wp2_with (go_at_call 27; refine (bld_check B b bs _ h).mono ?_)
  rintro e w1 ⟨rfl, h1, hb1⟩
  obtain ⟨hB, v, hbk, hown, hne⟩ := h1
  have c0 : w1.cell? ⟨b, 0, none⟩ = some (.pointer (some ⟨b, 0, none⟩)) := by rw [Lib.cell_of_heap hbk]; rfl
  have c1 : w1.cell? ⟨b, 1, none⟩ = some v := by rw [Lib.cell_of_heap hbk]; rfl
  go_wp2_with (at_builtin; refine wpList_append_own _ rfl _ _ 38 rfl B 5 i0 (.int .u8 0) 1 1 Try.underlying38 hi hz0 hz1 hz2 rfl (by decide) _ _ _ rfl (hown.alloc _) ⟨w1.heap.size, 0, none⟩ 1 1 [.int .u8 c] rfl rfl ?c1 ?c2 ?c3 ?c4 ?c5 ?_)
  case c1 =>
    intro j u hj
    match j, hj with
    | 0, hj => simp at hj; subst hj; simp [Addr.add]
  case c2 => intro u hu; simp at hu; subst hu; rfl
  case c3 => unfold maxLen; omega
  case c4 => omega
  case c5 => have := hb1.size; simp; omega
  intro v' w2 hown' hgrow _
  have hlt : b < w1.heap.size := by
    rcases Nat.lt_or_ge b w1.heap.size with h' | h'
    · exact h'
    · simp [Array.getElem?_eq_none h'] at hbk
  have hb2 : w2.heap[b]? = some (.cells #[.pointer (some ⟨b, 0, none⟩), v] 40 (0, 0)) := by
    rw [hgrow.block b (by simp; omega) (fun e => hne e.symm), Lib.alloc_old w1 _ b hlt]
    exact hbk
  have d0 : w2.cell? ⟨b, 0, none⟩ = some (.pointer (some ⟨b, 0, none⟩)) := by rw [Lib.cell_of_heap hb2]; rfl
  have d1 : w2.cell? ⟨b, 1, none⟩ = some v := by rw [Lib.cell_of_heap hb2]; rfl
  have f1 : w2.frozen? ⟨b, 1, none⟩ = false := Lib.frozen_of_heap hb2 1
  obtain ⟨g, cap, rfl⟩ : ∃ g cap, v' = .slice (some ⟨g, 0, none⟩) (bs.length + 1) cap := by
    rcases hown'.2 with ⟨_, h0⟩ | ⟨g, cap, cur, hv, _⟩
    · omega
    · exact ⟨g, cap, hv⟩
  go_wp2
  go_ret
  refine ⟨rfl, .inr ?_, ?_⟩
  · exact Lib.BuilderAt.put (T := 40) (e := 5) hB hb2 (bs' := bs ++ [.int .u8 c]) (by simpa using hown') (by decide)
  · exact ((hb1.alloc (by have := hb1.size; omega) _).grown hgrow (by have := hb1.size; simp; omega) (fun k hk => (hown.lt k hk).1)).setCell (p := ⟨b, 1, none⟩) hB _
set_option maxHeartbeats 2000000 in
set_option maxRecDepth 100000 in
theorem bld_string (B b : Nat) (bs : List Value) (s : ByteArray) (w : World) (h : Lib.IsBuilder 40 5 B b bs w) (hlen : bs.length + s.size ≤ 140737488355328) (hBw : B ≤ w.heap.size) :
    Calls Try.prog 16 #[.pointer (some ⟨b, 0, none⟩), .string s] w fun e w' => e = .returned (.tuple #[.int .i64 s.size, .nilIface]) ∧ (Lib.IsBuilder 40 5 B b (bs ++ Lib.strCells s) w' ∧ Below B w w') := by
  obtain ⟨i0, hi, hz0, hz1, hz2⟩ := info_parts byte_info
  go_enter Try.func16, Try.ntmps16
  go_wp2_with (go_at_call 27; refine (bld_check B b bs _ h).mono ?_)
  rintro e w1 ⟨rfl, h1, hb1⟩
  obtain ⟨hB, v, hbk, hown, hne⟩ := h1
  have c0 : w1.cell? ⟨b, 0, none⟩ = some (.pointer (some ⟨b, 0, none⟩)) := by rw [Lib.cell_of_heap hbk]; rfl
  have c1 : w1.cell? ⟨b, 1, none⟩ = some v := by rw [Lib.cell_of_heap hbk]; rfl
  go_wp2_with (at_builtin; refine Lib.wpList_append_own_string _ rfl _ _ 38 9 rfl B 5 i0 Try.underlying38 Try.underlying9 hi hz0 hz1 hz2 _ _ _ rfl hown s rfl ?c3 ?c4 ?c5 ?_)
  case c3 => unfold maxLen; omega
  case c4 => omega
  case c5 => have := hb1.size; omega
  intro v' w2 hown' hgrow _
  have hlt : b < w1.heap.size := by
    rcases Nat.lt_or_ge b w1.heap.size with h' | h'
    · exact h'
    · simp [Array.getElem?_eq_none h'] at hbk
  have hb2 : w2.heap[b]? = some (.cells #[.pointer (some ⟨b, 0, none⟩), v] 40 (0, 0)) := by
    rw [hgrow.block b hlt (fun e => hne e.symm)]
    exact hbk
  have d0 : w2.cell? ⟨b, 0, none⟩ = some (.pointer (some ⟨b, 0, none⟩)) := by rw [Lib.cell_of_heap hb2]; rfl
  have d1 : w2.cell? ⟨b, 1, none⟩ = some v := by rw [Lib.cell_of_heap hb2]; rfl
  have f1 : w2.frozen? ⟨b, 1, none⟩ = false := Lib.frozen_of_heap hb2 1
  obtain ⟨ao, n', cap, rfl⟩ : ∃ ao n' cap, v' = .slice ao n' cap := by
    rcases hown'.2 with ⟨hv, _⟩ | ⟨g, cap, cur, hv, _⟩
    · exact ⟨_, _, _, hv⟩
    · exact ⟨_, _, _, hv⟩
  go_wp2
  go_ret2
  refine ⟨rfl, .inr ?_, ?_⟩
  · exact Lib.BuilderAt.put (T := 40) (e := 5) hB hb2 (bs' := bs ++ Lib.strCells s) (by simpa [Lib.strCells_length] using hown') (by decide)
  · exact (hb1.grown hgrow (by have := hb1.size; omega) (fun k hk => (hown.lt k hk).1)).setCell (p := ⟨b, 1, none⟩) hB _
theorem isBuilder_below {T e : TypeId} {B b : Nat} {bs : List Value} {w w1 : World} (h : Lib.IsBuilder T e B b bs w) (hb : Below w.heap.size w w1) : Lib.IsBuilder T e B b bs w1 := by
  have key : ∀ p, Lib.BuilderAt T e B b p bs w → Lib.BuilderAt T e B b p bs w1 := by
    rintro p ⟨hB, v, hh, hown, hne⟩
    have hlt : b < w.heap.size := (Array.getElem?_eq_some_iff.1 hh).1
    exact ⟨hB, v, (hb.block b hlt).trans hh, pw_own_below hown hb, hne⟩
  exact h.elim (fun x => .inl (key _ x)) (fun x => .inr (key _ x))
theorem isBuilder_new (w : World) (T e : TypeId) : Lib.IsBuilder T e w.heap.size w.heap.size (Lib.byteCells []) (w.alloc (.cells #[.pointer none, .slice none 0 0] T)) :=
  .inl ⟨Nat.le_refl _, _, heap_alloc_new _ _, own_nil _ _ _ _, by simp [Value.ownBlock]⟩
theorem allOf_nil (k : Nat) (attr : Bool) : allOf k [] attr = [] := by cases k <;> rfl
theorem takeOf_at (s : ByteArray) (j : Nat) (attr : Bool) (h : j < s.size) : takeOf s j attr = refAt (s.data.toList.drop j) attr := by
  unfold takeOf
  rw [if_neg (by omega), Int.toNat_natCast]
theorem drop_at (s : ByteArray) (j : Nat) (h : j < s.size) : s.data.toList.drop j = s[j] :: s.data.toList.drop (j + 1) := by
  rw [List.drop_eq_getElem_cons (by simpa using h)]
  rfl
theorem retstr_of {a b : ByteArray} (h : a = b) : Ending.returned (.string a) = .returned (.string b) := by rw [h]
def charref_All.f (a0 : ByteArray) (a1 : Bool) : Option (ByteArray) := if a0.size ≤ 1048576 then some (textOf (allOf a0.size a0.data.toList a1)) else none
set_option maxHeartbeats 2000000 in
set_option maxRecDepth 100000 in
theorem charref_All.calls (a0 : ByteArray) (a1 : Bool) (r : ByteArray) (w : World) (h : charref_All.f a0 a1 = some r) :
    Calls Try.prog 11 #[.string a0, .bool a1] w fun e w' => e = .returned (.string r) ∧ Below w.heap.size w w' := by
  have hs : a0.size ≤ 1048576 := by
    unfold charref_All.f at h
    split at h
    · assumption
    · cases h
  have he : textOf (allOf a0.size a0.data.toList a1) = r := by
    unfold charref_All.f at h
    rw [if_pos hs] at h
    exact Option.some.inj h
  clear h
  have HE := Aside0.mk he
  clear he
  go_enter Try.func11, Try.ntmps11
  go_wp2_with fail
  have hnew := Aside0.mk (isBuilder_new w 40 5)
  have hbel := Aside0.mk (below_alloc (Below.refl w.heap.size w) (.cells #[.pointer none, .slice none 0 0] 40))
  go_loopg [6] a0.size (fun k i wr => ∃ (j : Nat) (l : List UInt8), i = .int .i64 j ∧ j + k ≤ a0.size ∧ a0.size ≤ j + k ∧ l.length ≤ 4 * j ∧ Aside0 (l ++ allOf k (a0.data.toList.drop j) a1 = allOf a0.size a0.data.toList a1) ∧ Aside0 (Lib.IsBuilder 40 5 w.heap.size w.heap.size (Lib.byteCells l) wr) ∧ Aside0 (Below w.heap.size w wr))
  case atStart => exact ⟨0, [], rfl, by omega, by omega, by simp, ⟨rfl⟩, hnew, hbel⟩
  case round =>
    clear hnew hbel
    obtain ⟨j, l, rfl, hj1, hj2, hl, HA, HI, HB⟩ := hrel
    by_cases hlt : j < a0.size
    · obtain ⟨k', hk'⟩ : ∃ m, gk = m + 1 := ⟨gk - 1, by omega⟩
      have hlen : (a0.data.toList.drop (j + 1)).length = k' := by simp; omega
      have hA := HA.out
      rw [hk', drop_at a0 j hlt, ← hlen, allOf_cons] at hA
      have hbd := refAt_bound (a0.data.toList.drop j) a1
      rw [drop_at a0 j hlt] at hbd
      have hT : charref_Take.f a0 j a1 = some (refAt (a0[j] :: a0.data.toList.drop (j + 1)) a1) := by
        unfold charref_Take.f
        rw [if_pos (by omega), takeOf_at a0 j a1 hlt, drop_at a0 j hlt]
      have hdl : (a0[j] :: a0.data.toList.drop (j + 1)).length = a0.size - j := by simp; omega
      rw [hdl] at hbd
      generalize hz : refAt (a0[j] :: a0.data.toList.drop (j + 1)) a1 = z at *
      obtain ⟨t, n, f⟩ := z
      simp only at hA hbd
      obtain ⟨hn0, hn1, ht⟩ := hbd
      obtain ⟨m, rfl⟩ : ∃ m : Nat, n = m := ⟨n.toNat, by omega⟩
      have HT := Aside0.mk hT
      have hbs : (Lib.byteCells l).length ≤ 4 * j := by rw [Lib.byteCells_length]; exact hl
      have HD := Aside0.mk hdl
      have HL := Aside0.mk hlen
      have HK := Aside0.mk hk'
      clear hT hz hk' hdl hlen HA
      by_cases hn : 0 < (m : Int)
      · rw [if_pos hn] at hA
        rw [Int.toNat_natCast, ← List.append_assoc] at hA
        have hdd : (a0[j] :: a0.data.toList.drop (j + 1)).drop m = a0.data.toList.drop (j + m) := by
          rw [← drop_at a0 j hlt, List.drop_drop]
        rw [hdd] at hA
        have hll : (a0.data.toList.drop (j + m)).length = a0.size - (j + m) := by simp
        rw [hll] at hA
        have HA := Aside0.mk hA
        clear hA hdd hll
        have hcc : Lib.byteCells l ++ Lib.strCells t = Lib.byteCells (l ++ t.data.toList) := by rw [Lib.byteCells_append]; rfl
        have HC := Aside0.mk hcc
        clear hcc
        have hm : 1 ≤ m := by omega
        go_wp2_with (go_at_call 13; (with_reducible refine (charref_Take.calls a0 j a1 t m f _ HT.out).mono ?_); rintro e w1 ⟨rfl, hb⟩)
        have hbw := below_step HB.out hb
        refine (bld_string w.heap.size w.heap.size (Lib.byteCells l) t _ (isBuilder_below HI.out hb) (by omega) hbw.size).mono ?_
        rintro e w2 ⟨rfl, hi2, hb2⟩
        rw [HC.out] at hi2
        have HI2 := Aside0.mk hi2
        have HB2 := Aside0.mk (hbw.trans hb2)
        clear hi2 hb2 hb hbw
        go_wp2
        go_roundg (a0.size - (j + m))
        case measure => omega
        case rel => exact ⟨j + m, l ++ t.data.toList, by go_num, by omega, by omega, by rw [List.length_append]; simp only [Array.length_toList]; have : t.data.size = t.size := rfl; omega, HA, HI2, HB2⟩
      · rw [if_neg hn] at hA
        rw [show l ++ a0[j] :: allOf (a0.data.toList.drop (j + 1)).length (a0.data.toList.drop (j + 1)) a1 = (l ++ [a0[j]]) ++ allOf (a0.data.toList.drop (j + 1)).length (a0.data.toList.drop (j + 1)) a1 by simp, HL.out] at hA
        have HA := Aside0.mk hA
        clear hA
        have hcc : Lib.byteCells l ++ [.int .u8 (a0[j].toNat : Int)] = Lib.byteCells (l ++ [a0[j]]) := by rw [Lib.byteCells_append]; rfl
        have HC := Aside0.mk hcc
        clear hcc
        go_wp2_with (go_at_call 13; (with_reducible refine (charref_Take.calls a0 j a1 t m f _ HT.out).mono ?_); rintro e w1 ⟨rfl, hb⟩)
        have hbw := below_step HB.out hb
        refine (bld_byte w.heap.size w.heap.size (Lib.byteCells l) _ _ (isBuilder_below HI.out hb) (by omega) hbw.size).mono ?_
        rintro e w2 ⟨rfl, hi2, hb2⟩
        rw [HC.out] at hi2
        have HI2 := Aside0.mk hi2
        have HB2 := Aside0.mk (hbw.trans hb2)
        clear hi2 hb2 hb hbw
        go_wp2
        go_roundg k'
        case measure => have := HK.out; omega
        case rel => exact ⟨j + 1, l ++ [a0[j]], by go_num, by have := HK.out; omega, by have := HK.out; omega, by rw [List.length_append]; simp; omega, HA, HI2, HB2⟩
    · have hA := HA.out
      rw [List.drop_of_length_le (by simp; omega), allOf_nil, List.append_nil] at hA
      have HE2 : Aside0 (textOf l = r) := ⟨by rw [hA]; exact HE.out⟩
      clear hA
      go_wp2_with fail
      refine (Try.Builder_String_any w.heap.size w.heap.size _ _ HI.out HB.out.size).mono ?_
      rintro e w2 ⟨rfl, hb2⟩
      have HB2 := Aside0.mk (HB.out.trans hb2)
      clear hb2
      go_wp2
      go_ret
      exact ⟨retstr_of HE2.out, HB2.out⟩

end Go.Proofs.Ytijjfkjihifjpaa.P
