/- What is written comes back, in a text and in an attribute; no sign that ends one is in it: the law portierelaw05.EscapeBack, for every input. -/
import Derived.Test.YtebcdfdkgjcmmaaPx9
import Derived.Test.YtebcdfdkgjcmmaaRefEsc
import Derived.Test.YtebcdfdkgjcmmaaRefTake
import Derived.Test.YtebcdfdkgjcmmaaLaws4
namespace Go.Proofs.Ytebcdfdkgjcmmaa.Pure
set_option linter.unusedVariables false
set_option linter.unusedSimpArgs false
open Go Go.RowKit Go.Proofs.Ytebcdfdkgjcmmaa.P Go.Proofs.Ytebcdfdkgjcmmaa.Hand Go.Proofs.Ytebcdfdkgjcmmaa.EscLaws Go.Proofs.Ytebcdfdkgjcmmaa.RefEsc Go.Proofs.YtebcdfdkgjcmmaaW.PrintWords Go.Proofs.YtebcdfdkgjcmmaaW.PrintLast

/-- A reference by name is read as what it stands for. -/
theorem back_name (i : Nat) (hi : i < 22) (nm : List UInt8) (v : List UInt8) (hn : (named.getD i Laws4.nmD).1.data.toList = nm) (hv : (Utf8.encode (named.getD i Laws4.nmD).2.1).data.toList = v) (l : List UInt8) (attr : Bool) :
    allOf (38 :: (nm ++ 59 :: l)).length (38 :: (nm ++ 59 :: l)) attr = v ++ allOf l.length l attr := by
  rw [List.length_cons, allOf_cons, ← hn, Laws4.no_hash i hi l attr, Laws4.ends_of i hi l attr]
  have hz : (named.getD i Laws4.nmD).1.size = (named.getD i Laws4.nmD).1.data.toList.length := size_list _
  have hd : (38 :: ((named.getD i Laws4.nmD).1.data.toList ++ 59 :: l)).drop (((named.getD i Laws4.nmD).1.size : Int) + 2).toNat = l := by
    rw [show (((named.getD i Laws4.nmD).1.size : Int) + 2).toNat = (named.getD i Laws4.nmD).1.data.toList.length + 1 + 1 by omega, List.drop_succ_cons]
    rw [List.drop_append, List.drop_of_length_le (by omega), List.nil_append, show (named.getD i Laws4.nmD).1.data.toList.length + 1 - (named.getD i Laws4.nmD).1.data.toList.length = 1 by omega]
    rfl
  simp only
  rw [if_pos (by omega), hd, hv]
theorem back_plain (c : UInt8) (l : List UInt8) (attr : Bool) (h : c ≠ 38) : allOf (c :: l).length (c :: l) attr = c :: allOf l.length l attr := by
  rw [List.length_cons, allOf_cons, Laws4.refAt_none c l attr h, if_neg (by simp)]
theorem back_all (q attr : Bool) (l : List UInt8) : allOf (escL q l).length (escL q l) attr = l := by
  refine esc_ind (q := q) (P := fun l => allOf (escL q l).length (escL q l) attr = l) rfl (fun c l h ih => ?_) (fun l ih => ?_) (fun c l h h2 ih => ?_) l.length l (Nat.le_refl _)
  · rw [escL_special q c l h]
    rcases esc_rep c with ⟨e, hc⟩ | ⟨e, hc⟩ | ⟨e, hc⟩ | ⟨e, h1, h2, h3⟩
    · have hb := back_name 0 (by decide) [97, 109, 112] [38] rfl rfl (escL q l) attr
      rw [e, hc]
      rw [ih] at hb
      exact hb
    · have hb := back_name 1 (by decide) [108, 116] [60] rfl rfl (escL q l) attr
      rw [e, hc]
      rw [ih] at hb
      exact hb
    · have hb := back_name 2 (by decide) [103, 116] [62] rfl rfl (escL q l) attr
      rw [e, hc]
      rw [ih] at hb
      exact hb
    · have hc : c = 34 := by
        unfold special at h
        simp [h1, h2, h3] at h
        exact h.2
      have hb := back_name 3 (by decide) [113, 117, 111, 116] [34] rfl rfl (escL q l) attr
      rw [e, hc]
      rw [ih] at hb
      exact hb
  · have hb := back_name 5 (by decide) [110, 98, 115, 112] [194, 160] rfl rfl (escL q l) attr
    rw [escL_nbsp, nbsp_list]
    rw [ih] at hb
    exact hb
  · rw [escL_plain q c l h h2, back_plain c _ attr ?_, ih]
    rintro rfl
    revert h; cases q <;> decide

theorem all_back (q attr : Bool) (s : ByteArray) (hs : s.size ≤ 1000) (k : Nat) (hk : 12 * s.size + 200 ≤ k) : portiereref04_All.f k (escB q s) attr = some s := by
  have e1 : (escB q s).size ≤ 6 * s.size := by rw [escB_size, size_list]; exact (esc_len q s.data.toList).2
  rw [RefCharref.ref_All (escB q s) attr (by omega) k (by omega)]
  congr 1
  apply bytes_ext
  rw [RefCharref.textOf_list, escB_size, escB_list]
  exact back_all q attr _
theorem no_sign (q : Bool) (s : ByteArray) (x : UInt8) (n : Int) (hn : (x.toNat : Int) = n) (hx : special q x = true) (hx2 : x ≠ 38) (i : Nat) (hi : i < (escB q s).size) : ¬ bt (escB q s) i = n := by
  have hl : i < (escB q s).data.toList.length := by rw [← size_list]; exact hi
  rw [bt_list, Int.toNat_natCast, List.getD_eq_getElem?_getD, List.getElem?_eq_getElem hl, Option.getD_some]
  intro h
  have h2 := (toNat_iff _ x n hn).1 h
  have h3 : (escB q s).data.toList[i] ∈ (escB q s).data.toList := List.getElem_mem hl
  rw [h2, escB_list] at h3
  exact esc_none q x hx hx2 _ h3
theorem back_l1 (s : ByteArray) (hs : s.size ≤ 1000) : ∀ (d i k : Nat), i + d = (escB true s).size → d + 12 * s.size + 201 ≤ k → portierelaw05_EscapeBack.l1 k s (escB false s) (escB true s) i = some true := by
  have e1 : (escB true s).size ≤ 6 * s.size := by rw [escB_size, size_list]; exact (esc_len true s.data.toList).2
  intro d
  induction d with
  | zero =>
    intro i k hi hk
    obtain ⟨k, rfl⟩ : ∃ m, k = m + 1 := ⟨k - 1, by omega⟩
    simp only [portierelaw05_EscapeBack.l1]
    rw [if_neg (by omega), all_back false false s hs k (by omega), Option.bind_some, if_pos rfl, all_back true true s hs k (by omega), Option.bind_some, beq_self_eq_true]
  | succ d ih =>
    intro i k hi hk
    obtain ⟨k, rfl⟩ : ∃ m, k = m + 1 := ⟨k - 1, by omega⟩
    have W : Aside0 (wrap64 ((i : Int) + 1) = ((i + 1 : Nat) : Int)) := ⟨by rw [wrap64_id] <;> omega⟩
    simp only [portierelaw05_EscapeBack.l1]
    rw [if_pos (by omega), if_pos (by omega), if_neg (no_sign true s 60 60 rfl rfl (by decide) i (by omega)), if_neg (no_sign true s 34 34 rfl rfl (by decide) i (by omega)), W.out]
    exact ih (i + 1) k (by omega) (by omega)
theorem back_l0 (s : ByteArray) (hs : s.size ≤ 1000) : ∀ (d i k : Nat), i + d = (escB false s).size → d + 18 * s.size + 202 ≤ k → portierelaw05_EscapeBack.l0 k s (escB false s) (escB true s) i = some true := by
  have e1 : (escB false s).size ≤ 6 * s.size := by rw [escB_size, size_list]; exact (esc_len false s.data.toList).2
  have e2 : (escB true s).size ≤ 6 * s.size := by rw [escB_size, size_list]; exact (esc_len true s.data.toList).2
  intro d
  induction d with
  | zero =>
    intro i k hi hk
    obtain ⟨k, rfl⟩ : ∃ m, k = m + 1 := ⟨k - 1, by omega⟩
    have h := back_l1 s hs (escB true s).size 0 k (by omega) (by omega)
    simp only [portierelaw05_EscapeBack.l0]
    rw [if_neg (by omega)]
    exact h
  | succ d ih =>
    intro i k hi hk
    obtain ⟨k, rfl⟩ : ∃ m, k = m + 1 := ⟨k - 1, by omega⟩
    have W : Aside0 (wrap64 ((i : Int) + 1) = ((i + 1 : Nat) : Int)) := ⟨by rw [wrap64_id] <;> omega⟩
    simp only [portierelaw05_EscapeBack.l0]
    rw [if_pos (by omega), if_pos (by omega), if_neg (no_sign false s 60 60 rfl rfl (by decide) i (by omega)), if_neg (no_sign false s 62 62 rfl rfl (by decide) i (by omega)), W.out]
    exact ih (i + 1) k (by omega) (by omega)
theorem back_end (k : Nat) (s : ByteArray) (hs : s.size ≤ 1000) (hk : 24 * s.size + 202 ≤ k) : portierelaw05_EscapeBack.j0 (k + 1) s false = some true := by
  have e1 : (escB false s).size ≤ 6 * s.size := by rw [escB_size, size_list]; exact (esc_len false s.data.toList).2
  have h := back_l0 s hs (escB false s).size 0 k (by omega) (by omega)
  simp only [portierelaw05_EscapeBack.j0]
  rw [if_neg Bool.false_ne_true, text_of s (by omega), Option.bind_some, value_of s (by omega), Option.bind_some]
  exact h
theorem back_known (k : Nat) (s : ByteArray) : portierelaw05_EscapeBack.j0 (k + 1) s true = some true := by
  simp only [portierelaw05_EscapeBack.j0]
  rw [if_pos trivial, known_true, Option.bind_some]
theorem EscapeBack : portierelaw05_EscapeBack.Pure := by
  intro a0 hw
  clear hw
  refine ⟨24 * a0.size + 202 + 1, ?_⟩
  unfold portierelaw05_EscapeBack.f
  by_cases hs : (a0.size : Int) > 1000
  · rw [if_pos hs]
    exact back_known _ a0
  · rw [if_neg hs, known_true, Option.bind_some]
    exact back_end _ a0 (by omega) (Nat.le_refl _)

end Go.Proofs.Ytebcdfdkgjcmmaa.Pure
