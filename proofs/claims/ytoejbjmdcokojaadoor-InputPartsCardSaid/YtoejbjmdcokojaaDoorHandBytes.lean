/- By hand: texts as lists of bytes. -/
import Derived.Test.YtoejbjmdcokojaaDoorWWords
import Derived.Laws.Strings
import Derived.WideShapes
import Derived.Lib.Strings
namespace Go.Proofs.YtoejbjmdcokojaaDoor.Hand
set_option linter.unusedVariables false
set_option linter.unusedSimpArgs false
open Go Go.RowKit Go.Proofs.YtoejbjmdcokojaaDoorW.PrintWords

theorem ext_list (s : ByteArray) (a b : Nat) : (s.extract a b).data.toList = (s.data.toList.drop a).take (b - a) := Lib.extract_data s a b
theorem ext_from (s : ByteArray) (a : Nat) : (s.extract a s.size).data.toList = s.data.toList.drop a := by
  rw [ext_list, List.take_of_length_le (by simp)]
theorem toList_data (s : ByteArray) : s.toList = s.data.toList := ByteArray.toList_eq s
theorem app_list (a b : ByteArray) : (a ++ b).data.toList = a.data.toList ++ b.data.toList := by simp [ByteArray.data_append]
theorem size_list (s : ByteArray) : s.size = s.data.toList.length := by rw [Array.length_toList]; rfl
theorem bytes_ext {a b : ByteArray} (h : a.data.toList = b.data.toList) : a = b := by
  cases a; cases b; simp at h; rw [h]
theorem bt_list (s : ByteArray) (i : Int) : bt s i = ((s.data.toList.getD i.toNat 0).toNat : Int) := by
  unfold bt
  split
  · rename_i h
    have h' : i.toNat < s.data.toList.length := by simpa using h
    rw [List.getD_eq_getElem?_getD, List.getElem?_eq_getElem h', Option.getD_some]
    rfl
  · rename_i h
    have h' : s.data.toList.length ≤ i.toNat := by simpa using h
    rw [List.getD_eq_getElem?_getD, List.getElem?_eq_none h', Option.getD_none]
    rfl
theorem lit_list (l : List UInt8) : (⟨l.toArray⟩ : ByteArray).data.toList = l := by simp
theorem prefix_take {p l : List UInt8} (h : p.length ≤ l.length) : (l.take p.length == p) = p.isPrefixOf l := by
  rw [Bool.eq_iff_iff, beq_iff_eq, List.isPrefixOf_iff_prefix]
  constructor
  · intro h1
    refine ⟨l.drop p.length, ?_⟩
    have := List.take_append_drop p.length l
    rw [h1] at this
    exact this
  · rintro ⟨t, rfl⟩; simp
theorem prefix_long {p l : List UInt8} (h : l.length < p.length) : p.isPrefixOf l = false := by
  rw [Bool.eq_false_iff]
  intro h1
  have := (List.isPrefixOf_iff_prefix.1 h1).length_le
  omega
theorem head_prefix (c : UInt8) (l : List UInt8) : [c].isPrefixOf l = (l.head? == some c) := by
  cases l with
  | nil => rfl
  | cons a l =>
    simp [List.isPrefixOf]
    exact Bool.beq_comm
theorem wrap64_id {x : Int} (h0 : -9223372036854775808 ≤ x) (h1 : x ≤ 9223372036854775807) : wrap64 x = x := by unfold wrap64; omega

end Go.Proofs.YtoejbjmdcokojaaDoor.Hand
