/- By hand: the replacer's run over a text. -/
import Derived.Test.YtebcdfdkgjcmmaaEscSpec
namespace Go.Proofs.Ytebcdfdkgjcmmaa.Hand
set_option linter.unusedVariables false
set_option linter.unusedSimpArgs false
open Go Go.RowKit Go.Proofs.YtebcdfdkgjcmmaaW.PrintWords

theorem WriterAt.drewN {B b : Nat} {bs : List Value} {w : World} (h : WriterAt B b bs w) (n : Nat) : WriterAt B b bs (w.drewN n) := h
theorem writer_below {B b : Nat} {bs : List Value} {w w1 : World} (h : WriterAt B b bs w) (hb : Below w.heap.size w w1) : WriterAt B b bs w1 := by
  obtain ⟨hB, v, hh, hown, hne⟩ := h
  have hlt : b < w.heap.size := (Array.getElem?_eq_some_iff.1 hh).1
  exact ⟨hB, v, (hb.block b hlt).trans hh, pw_own_below hown hb, hne⟩
theorem nil_neq (w : World) : (binOp .neq 127 .nilIface .nilIface).run Try.prog w = .ok (.bool false) w := by kernel_rfl
theorem ptr_eq_nil (a : Addr) (w : World) : (binOp .eql 81 (.pointer (some a)) (.pointer none)).run Try.prog w = .ok (.bool false) w := by kernel_rfl
theorem nil_eq_nil (w : World) : (binOp .eql 81 (.pointer none) (.pointer none)).run Try.prog w = .ok (.bool true) w := by kernel_rfl
theorem sw_method (p : Option Addr) (w : World) : (method 249 133 (.pointer p) "WriteString").run Try.prog w = .ok (107, .pointer p) w := by kernel_rfl
theorem sw_ahead (a : Addr) (w : World) : (nilAhead 249 133 (.pointer (some a)) "WriteString").run Try.prog w = .ok (some false) w := by kernel_rfl

/-- Behind 'j' bytes: what is written, and what stands between the last replacement and here. -/
def RunAt (q : Bool) (l : List UInt8) (j la : Nat) (bs : List UInt8) : Prop := bs ++ ((l.drop la).take (j - la) ++ escL q (l.drop j)) = escL q l
theorem runAt_step {q : Bool} {l : List UInt8} {j la : Nat} {bs : List UInt8} {c : UInt8} (h : RunAt q l j la bs) (hla : la ≤ j) (hd : l.drop j = c :: l.drop (j + 1)) (he : escL q (l.drop j) = c :: escL q (l.drop (j + 1))) : RunAt q l (j + 1) la bs := by
  unfold RunAt at *
  rw [he] at h
  have : (l.drop la).take (j + 1 - la) = (l.drop la).take (j - la) ++ [c] := by
    rw [show j + 1 - la = (j - la) + 1 by omega, List.take_add_one]
    have : (l.drop la)[j - la]? = some c := by
      rw [List.getElem?_drop, show la + (j - la) = j by omega]
      have h2 : (l.drop j)[0]? = some c := by rw [hd]; rfl
      rwa [List.getElem?_drop, Nat.add_zero] at h2
    rw [this]; rfl
  rw [this, List.append_assoc]
  exact h
theorem runAt_jump {q : Bool} {l : List UInt8} {j la kl : Nat} {bs v : List UInt8} (h : RunAt q l j la bs) (he : escL q (l.drop j) = v ++ escL q (l.drop (j + kl))) : RunAt q l (j + kl) (j + kl) (bs ++ (l.drop la).take (j - la) ++ v) := by
  unfold RunAt at *
  rw [he] at h
  rw [Nat.sub_self, List.take_zero, List.nil_append]
  simpa [List.append_assoc] using h
theorem runAt_over {q : Bool} {l : List UInt8} {j la : Nat} {bs : List UInt8} (h : RunAt q l j la bs) (hj : l.length ≤ j) : RunAt q l (j + 1) la bs := by
  unfold RunAt at *
  rw [List.drop_of_length_le hj, List.take_of_length_le (by simp; omega)] at h
  rw [show l.drop (j + 1) = [] from List.drop_of_length_le (by omega), List.take_of_length_le (i := j + 1 - la) (by simp; omega)]
  exact h
theorem runAt_end {q : Bool} {l : List UInt8} {j la : Nat} {bs : List UInt8} (h : RunAt q l j la bs) (hj : l.length ≤ j) (hla : la ≤ l.length) : bs ++ l.drop la = escL q l := by
  unfold RunAt at h
  rw [List.drop_of_length_le hj] at h
  rw [show escL q [] = [] from rfl, List.append_nil, List.take_of_length_le (by simp; omega)] at h
  exact h

def bytesV (l : List UInt8) : List Value := l.map fun b => Value.int .u8 b.toNat
theorem bytesV_append (a b : List UInt8) : bytesV (a ++ b) = bytesV a ++ bytesV b := by simp [bytesV]
theorem bytesV_length (a : List UInt8) : (bytesV a).length = a.length := by simp [bytesV]
theorem strCells_of {t : ByteArray} {l : List UInt8} (h : t.data.toList = l) : Lib.strCells t = bytesV l := by rw [← h]; rfl

set_option maxHeartbeats 4000000 in
set_option maxRecDepth 100000 in
theorem gen_write (q : Bool) (C D G b : Nat) (s : ByteArray) (w : World) (hs : s.size ≤ 1048576) (hR : Ready q C D w G) (hD : D ≤ w.heap.size) (hW : WriterAt D b (bytesV []) w) :
    Calls Try.prog 85 #[.pointer (some ⟨G, 0, none⟩), .iface 133 (.pointer (some ⟨b, 0, none⟩)), .string s] w fun e w' => (∃ v, e = .returned v) ∧ WriterAt D b (bytesV (escL q s.data.toList)) w' ∧ Below D w w' := by
  have hmeth := sw_method
  have hna := sw_ahead
  have hnn := nil_neq
  have hmf : ∀ (fn : Fn) (first cap : Array Value) (w : World), (Instr.makeFunc fn first cap).run Try.prog w = .ok (.func fn first cap) w := fun _ _ _ _ => rfl
  have hp1 := ptr_eq_nil
  have hp2 := nil_eq_nil
  have hl : s.size = s.data.toList.length := size_list s
  have HL := Aside0.mk hl
  clear hl
  go_enter Try.func85, Try.ntmps85
  go_wp2_with (go_at_call 86; refine (get_sw _ _).mono ?_; rintro e w1 ⟨rfl, hw⟩; rw [hw]; clear hw)
  have HR := Aside0.mk hR
  have HW := Aside0.mk hW
  clear hR hW
  go_loopg [6, 7, 9, 11, 12] (s.size + 1) (fun k n er la pm i wr => ∃ (j la' : Nat) (nn : Int) (bs : List UInt8), i = .int .i64 j ∧ la = .int .i64 la' ∧ n = .int .i64 nn ∧ er = .nilIface ∧ pm = .bool false ∧ j + k ≤ s.size + 1 ∧ s.size + 1 ≤ j + k ∧ la' ≤ j ∧ la' ≤ s.size ∧ bs.length ≤ 6 * la' ∧ Aside0 (RunAt q s.data.toList j la' bs) ∧ Aside0 (WriterAt D b (bytesV bs) wr) ∧ Aside0 (Below D w wr))
  case atStart => exact ⟨0, 0, 0, [], rfl, rfl, rfl, rfl, rfl, by omega, by omega, by omega, by omega, by simp, ⟨by unfold RunAt; simp⟩, HW, ⟨Below.refl _ _⟩⟩
  case round =>
    clear HW
    obtain ⟨j, la, nn, bs, rfl, rfl, rfl, rfl, rfl, hj1, hj2, hla, hla2, hbs, HA, HI, HB⟩ := hrel
    have hDr : D ≤ wr.heap.size := Nat.le_trans hD HB.out.size
    have HRw : Aside0 (Ready q C D wr G) := ⟨HR.out.below HB.out⟩
    obtain ⟨T, g1, g4, g5, hmeets⟩ := ready_meets HRw.out
    by_cases hlt : j < s.size
    · obtain ⟨gm, hm⟩ := hmeets s j hlt (by omega)
      clear hmeets
      have hc1 : ((s[j]'hlt).toNat : Int) < 256 := by have := (s[j]'hlt).toNat_lt; omega
      have hc2 : (s[j]'hlt).toNat < 256 := (s[j]'hlt).toNat_lt
      have hc0 : (0 : Int) ≤ (s[j]'hlt).toNat := by omega
      have hi1 : ¬ (j : Int) = s.size := by omega
      have hi2 : (j : Int) ≤ s.size := by omega
      have hn100 : nOf q < 100 := by unfold nOf; split <;> omega
      have hD := drop_at s j hlt
      have hbw : ∀ W, Below D wr W → Below D w W := fun W h => HB.out.trans h
      generalize hmq : mapOf q (s[j]'hlt) = m at *
      generalize hnq : nOf q = n at *
      rcases hm with ⟨h, h2, h3⟩ | ⟨h, h2, h3, ht⟩ | ⟨h, a, ht, v, kl, h1, h2, h3, he, hl⟩ | ⟨h, a, ht, he, hl⟩
      · subst h
        have hA := runAt_step HA.out hla hD (by rw [hD]; exact escL_plain q _ _ h2 (fun h => h3 h.1))
        have HA2 := Aside0.mk hA
        clear hA HA hD
        go_wp2
        go_quiet (fail)
        go_wp2
        go_roundg (gk - 1)
        case measure => omega
        case rel => exact ⟨j + 1, la, nn, bs, by go_num, rfl, rfl, rfl, rfl, by omega, by omega, by omega, by omega, by omega, HA2, ⟨HI.out.drewN _⟩, ⟨pw_below_drewN HB.out _⟩⟩
      · have hA := runAt_step HA.out hla hD (by rw [hD]; exact escL_plain q _ _ h2 (fun h => h3 h.1))
        have HA2 := Aside0.mk hA
        have hmn : ¬ (m : Int) = n := by omega
        have hmn' : (m : Int) < n := by omega
        clear hA HA hD
        go_wp2
        go_quiet (fail)
        go_wp2
        go_roundg (gk - 1)
        case measure => omega
        case rel => exact ⟨j + 1, la, nn, bs, by go_num, rfl, rfl, rfl, rfl, by omega, by omega, by omega, by omega, by omega, HA2, ⟨HI.out.drewN _⟩, ⟨pw_below_drewN HB.out _⟩⟩
      · have hA := runAt_jump HA.out he
        have HA2 := Aside0.mk hA
        have HLk := Aside0.mk hl
        have hmn : ¬ (m : Int) = n := by omega
        have hmn' : (m : Int) < n := by omega
        have hkl : ((kl : Int) == 0) = false := by rw [beq_eq_false_iff_ne]; omega
        have hlaj : (la : Int) ≤ j := by omega
        have hl1 : (bytesV bs).length + (s.extract la j).size ≤ 140737488355328 := by rw [bytesV_length, ByteArray.size_extract]; omega
        have hl2 : (bytesV (bs ++ (s.data.toList.drop la).take (j - la))).length + v.size ≤ 140737488355328 := by
          rw [bytesV_length, List.length_append, List.length_take]; omega
        have hcat : bytesV bs ++ Lib.strCells (s.extract la j) = bytesV (bs ++ (s.data.toList.drop la).take (j - la)) := by
          rw [bytesV_append, strCells_of (ext_list s la j)]
        have hcat2 : bytesV (bs ++ (s.data.toList.drop la).take (j - la)) ++ Lib.strCells v = bytesV (bs ++ (s.data.toList.drop la).take (j - la) ++ v.data.toList) := by
          rw [bytesV_append _ v.data.toList]; rfl
        have hbs2 : (bs ++ (s.data.toList.drop la).take (j - la) ++ v.data.toList).length ≤ 6 * (j + kl) := by
          rw [List.length_append, List.length_append, List.length_take, ← size_list]; omega
        have L1 := Aside0.mk hl1
        have L2 := Aside0.mk hl2
        have C1 := Aside0.mk hcat
        have C2 := Aside0.mk hcat2
        have B2 := Aside0.mk hbs2
        clear hA HA hD hl1 hl2 hcat hcat2 hbs2 he hl
        go_wp2
        go_quiet (fail)
        go_wp2_with (go_at_call 87; refine (HLk.out _).mono ?_; rintro e w2 ⟨rfl, dd, hw2⟩; rw [hw2]; clear hw2)
        go_region_with (go_at_call 107; refine (aw_string D b (bytesV bs) (s.extract la j) _ (HI.out.drewN _) L1.out hDr).mono ?_; rintro e w3 ⟨rfl, hw3, hb3⟩)
        rw [C1.out] at hw3
        have HI3 := Aside0.mk hw3
        have HB3 : Aside0 (Below D w w3) := ⟨(pw_below_drewN HB.out _).trans hb3⟩
        clear hw3 hb3
        have hD3 : D ≤ w3.heap.size := Nat.le_trans hD HB3.out.size
        go_wp2_with (go_at_call 107; refine (aw_string D b (bytesV (bs ++ (s.data.toList.drop la).take (j - la))) v _ HI3.out L2.out hD3).mono ?_; rintro e w4 ⟨rfl, hw4, hb4⟩)
        rw [C2.out] at hw4
        have HI4 := Aside0.mk hw4
        have HB4 : Aside0 (Below D w w4) := ⟨HB3.out.trans hb4⟩
        clear hw4 hb4
        go_wp2
        go_roundg (gk - kl)
        case measure => omega
        case rel => exact ⟨j + kl, j + kl, _, _, by go_num, by go_num, rfl, rfl, rfl, by omega, by omega, by omega, by omega, B2.out, HA2, HI4, HB4⟩
      · have hA := runAt_step HA.out hla hD (by rw [hD] at he ⊢; exact he)
        have HA2 := Aside0.mk hA
        have HLk := Aside0.mk hl
        have hmn : ¬ (m : Int) = n := by omega
        have hmn' : (m : Int) < n := by omega
        clear hA HA hD hl he
        go_wp2
        go_quiet (fail)
        go_wp2_with (go_at_call 87; refine (HLk.out _).mono ?_; rintro e w2 ⟨rfl, dd, hw2⟩; rw [hw2]; clear hw2)
        go_roundg (gk - 1)
        case measure => omega
        case rel => exact ⟨j + 1, la, nn, bs, by go_num, rfl, rfl, rfl, rfl, by omega, by omega, by omega, by omega, by omega, HA2, ⟨HI.out.drewN _⟩, ⟨pw_below_drewN HB.out _⟩⟩
    · clear hmeets
      by_cases heq : j = s.size
      · have hA := runAt_over HA.out (by rw [← HL.out]; omega)
        have HA2 := Aside0.mk hA
        have hem : (⟨#[]⟩ : ByteArray) = ByteArray.empty := rfl
        have hlk : Calls Try.prog 87 #[.pointer (some ⟨G, 0, none⟩), .string ByteArray.empty, .bool false] wr fun e w' => e = .returned (.tuple #[.string ⟨#[]⟩, .int .i64 0, .bool false]) ∧ w' = wr := by
          rw [← hem]
          exact look_empty G 0 0 wr g1
        have HLk := Aside0.mk hlk
        have hi1 : (j : Int) = s.size := by omega
        clear hA HA hlk hem
        go_wp2_with (go_at_call 87; refine HLk.out.mono ?_; rintro e w2 ⟨rfl, hw2⟩; rw [hw2]; clear hw2)
        go_roundg (gk - 1)
        case measure => omega
        case rel => exact ⟨j + 1, la, nn, bs, by go_num, rfl, rfl, rfl, rfl, by omega, by omega, by omega, by omega, by omega, HA2, HI, HB⟩
      · have hA := runAt_end HA.out (by rw [← HL.out]; omega) (by rw [← HL.out]; omega)
        have hi1 : ¬ (j : Int) ≤ s.size := by omega
        by_cases hle : la = s.size
        · rw [List.drop_of_length_le (by rw [← HL.out]; omega), List.append_nil] at hA
          have hi2 : (la : Int) = s.size := by omega
          have HI2 : Aside0 (WriterAt D b (bytesV (escL q s.data.toList)) wr) := ⟨by rw [← hA]; exact HI.out⟩
          clear hA HA
          go_wp2
          go_ret2
          exact ⟨⟨_, rfl⟩, HI2.out, HB.out⟩
        · have hi2 : ¬ (la : Int) = s.size := by omega
          have hi3 : (la : Int) ≤ s.size := by omega
          have hl1 : (bytesV bs).length + (s.extract la s.size).size ≤ 140737488355328 := by rw [bytesV_length, ByteArray.size_extract]; omega
          have hcat : bytesV bs ++ Lib.strCells (s.extract la s.size) = bytesV (escL q s.data.toList) := by
            rw [strCells_of (ext_from s la), ← bytesV_append, hA]
          have L1 := Aside0.mk hl1
          have C1 := Aside0.mk hcat
          clear hA HA hl1 hcat
          go_wp2
          go_region_with (go_at_call 107; refine (aw_string D b (bytesV bs) (s.extract la s.size) _ (HI.out.drewN _) L1.out hDr).mono ?_; rintro e w3 ⟨rfl, hw3, hb3⟩)
          rw [C1.out] at hw3
          have HI3 := Aside0.mk hw3
          have HB3 : Aside0 (Below D w w3) := ⟨(pw_below_drewN HB.out _).trans hb3⟩
          clear hw3 hb3
          go_wp2
          go_ret2
          exact ⟨⟨_, rfl⟩, HI3.out, HB3.out⟩
end Go.Proofs.Ytebcdfdkgjcmmaa.Hand
