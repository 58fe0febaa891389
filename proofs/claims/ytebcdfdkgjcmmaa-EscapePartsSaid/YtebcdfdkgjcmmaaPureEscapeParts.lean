/- Two texts are written one behind the other as each by itself, if no character is cut: the law portierelaw05.EscapeParts, for every input. -/
import Derived.Test.YtebcdfdkgjcmmaaPx5
import Derived.Test.YtebcdfdkgjcmmaaRefEsc
namespace Go.Proofs.Ytebcdfdkgjcmmaa.Pure
set_option linter.unusedVariables false
set_option linter.unusedSimpArgs false
open Go Go.RowKit Go.Proofs.Ytebcdfdkgjcmmaa.P Go.Proofs.Ytebcdfdkgjcmmaa.Hand Go.Proofs.Ytebcdfdkgjcmmaa.EscLaws Go.Proofs.Ytebcdfdkgjcmmaa.RefEsc Go.Proofs.YtebcdfdkgjcmmaaW.PrintWords Go.Proofs.YtebcdfdkgjcmmaaW.PrintLast

theorem esc_size (q : Bool) (s : ByteArray) : (escB q s).size ≤ 6 * s.size := by
  rw [escB_size, size_list]
  exact (esc_len q s.data.toList).2
theorem escB_parts (q : Bool) (s t : ByteArray) (h : s.data.toList.getLast? ≠ some 194) : escB q (s ++ t) = escB q s ++ escB q t := by
  apply bytes_ext
  rw [app_list, escB_list, escB_list, escB_list, app_list]
  exact esc_parts q _ _ h
theorem parts_end (k : Nat) (s t : ByteArray) (hs : s.size ≤ 1000) (ht : t.size ≤ 1000) (h : s.data.toList.getLast? ≠ some 194) : portierelaw05_EscapeParts.j0 (k + 1) s t false = some true := by
  have e1 := esc_size false s
  have e2 := esc_size false t
  have e3 := esc_size true s
  have e4 := esc_size true t
  have hz : (s ++ t).size ≤ 1048576 := by rw [ByteArray.size_append]; omega
  simp only [portierelaw05_EscapeParts.j0]
  rw [if_neg Bool.false_ne_true, if_pos (by omega), text_of _ hz, Option.bind_some, text_of s (by omega), Option.bind_some, text_of t (by omega), Option.bind_some, if_pos (by omega), escB_parts false s t h, if_pos rfl,
    value_of _ hz, Option.bind_some, value_of s (by omega), Option.bind_some, value_of t (by omega), Option.bind_some, if_pos (by omega), escB_parts true s t h, beq_self_eq_true]
theorem parts_known (k : Nat) (s t : ByteArray) : portierelaw05_EscapeParts.j0 (k + 1) s t true = some true := by
  simp only [portierelaw05_EscapeParts.j0]
  rw [if_pos trivial, known_true, Option.bind_some]
theorem EscapeParts : portierelaw05_EscapeParts.Pure := by
  intro a0 a1 hw hw1
  clear hw hw1
  refine ⟨0 + 1, ?_⟩
  unfold portierelaw05_EscapeParts.f
  by_cases hs : (a0.size : Int) > 1000
  · rw [if_pos hs]
    exact parts_known _ _ _
  · rw [if_neg hs]
    by_cases ht : (a1.size : Int) > 1000
    · rw [if_pos ht]
      exact parts_known _ _ _
    · rw [if_neg ht]
      by_cases h0 : (a0.size : Int) > 0
      · have W : Aside0 (wrap64 ((a0.size : Int) - 1) = ((a0.size - 1 : Nat) : Int)) := ⟨by rw [wrap64_id] <;> omega⟩
        rw [if_pos h0, W.out, if_pos (by omega), if_pos (by omega)]
        have hl : a0.data.toList.length = a0.size := by rw [← size_list]
        have hlast : a0.data.toList.getLast? = some (a0.data.toList.getD (a0.size - 1) 0) := by
          rw [List.getLast?_eq_getElem?, hl, List.getD_eq_getElem?_getD, List.getElem?_eq_getElem (by omega)]
          rfl
        have hb : bt a0 ((a0.size - 1 : Nat) : Int) = ((a0.data.toList.getD (a0.size - 1) 0).toNat : Int) := by rw [bt_list, Int.toNat_natCast]
        rw [hb]
        by_cases hc : a0.data.toList.getD (a0.size - 1) 0 = 194
        · rw [if_pos ((toNat_iff _ 194 194 rfl).2 hc)]
          exact parts_known _ _ _
        · rw [if_neg (fun h => hc ((toNat_iff _ 194 194 rfl).1 h)), known_true, Option.bind_some]
          exact parts_end 0 a0 a1 (by omega) (by omega) (by rw [hlast]; intro h; exact hc (Option.some.inj h))
      · rw [if_neg h0, known_true, Option.bind_some]
        have hz : a0.data.toList = [] := List.eq_nil_of_length_eq_zero (by rw [← size_list]; omega)
        exact parts_end 0 a0 a1 (by omega) (by omega) (by rw [hz]; simp)

end Go.Proofs.Ytebcdfdkgjcmmaa.Pure
