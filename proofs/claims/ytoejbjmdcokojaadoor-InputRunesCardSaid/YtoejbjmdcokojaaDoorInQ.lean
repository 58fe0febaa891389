/- What the printed words of Plain, Many, Mark and Runes say, on lists of bytes. -/
import Derived.Test.YtoejbjmdcokojaaDoorQx2
import Derived.Test.YtoejbjmdcokojaaDoorQx1
import Derived.Test.YtoejbjmdcokojaaDoorInLaws2
namespace Go.Proofs.YtoejbjmdcokojaaDoor.InQ
set_option linter.unusedVariables false
set_option linter.unusedSimpArgs false
open Go Go.RowKit Go.Proofs.YtoejbjmdcokojaaDoor.Hand Go.Proofs.YtoejbjmdcokojaaDoor.InLaws Go.Proofs.YtoejbjmdcokojaaDoor.Q Go.Proofs.YtoejbjmdcokojaaDoorW.PrintWords Go.Proofs.YtoejbjmdcokojaaDoorW.PrintLast Go.Proofs.YtoejbjmdcokojaaDoorW.PrintMore

def ints (l : List UInt8) : List Int := l.map fun c => (c.toNat : Int)
theorem ints_len (l : List UInt8) : (ints l).length = l.length := by simp [ints]
theorem ints_app (a b : List UInt8) : ints a ++ ints b = ints (a ++ b) := by simp [ints]
theorem byte_range (c : UInt8) : 0 ≤ (c.toNat : Int) ∧ (c.toNat : Int) ≤ 255 := by have := c.toNat_lt; omega
theorem rd_at {l : List UInt8} {i : Nat} {c : UInt8} {t : List UInt8} (h : l.drop i = c :: t) : rd (ints l) i = (c.toNat : Int) ∧ i < l.length ∧ l.drop (i + 1) = t := by
  have hi : i < l.length := by
    rcases Nat.lt_or_ge i l.length with h1 | h1
    · exact h1
    · rw [List.drop_of_length_le h1] at h; cases h
  rw [List.drop_eq_getElem_cons hi] at h
  injection h with h1 h2
  refine ⟨?_, hi, h2⟩
  unfold rd
  rw [Int.toNat_natCast, List.getD_eq_getElem?_getD]
  simp [ints, List.getElem?_eq_getElem hi, h1]
theorem data_len (s : ByteArray) : s.data.toList.length = s.size := Array.length_toList
theorem bt_drop {s : ByteArray} {i : Nat} {c : UInt8} {l : List UInt8} (h : s.data.toList.drop i = c :: l) : bt s i = (c.toNat : Int) ∧ i < s.size ∧ s.data.toList.drop (i + 1) = l := by
  have hi : i < s.data.toList.length := by
    rcases Nat.lt_or_ge i s.data.toList.length with h1 | h1
    · exact h1
    · rw [List.drop_of_length_le h1] at h; cases h
  rw [List.drop_eq_getElem_cons hi] at h
  injection h with h1 h2
  have hi' : i < s.size := by rw [data_len] at hi; exact hi
  refine ⟨?_, hi', h2⟩
  rw [← bt_at s i (by rw [Int.toNat_natCast]; exact hi')]
  rw [← h1]
  rfl
theorem drop_nil {s : ByteArray} {i : Nat} (h : s.data.toList.drop i = []) : s.size ≤ i := by
  have := List.drop_eq_nil_iff.1 h
  rw [data_len] at this
  exact this
theorem str_ints (l : List UInt8) : strOfNums (ints l) = ⟨l.toArray⟩ := by
  unfold strOfNums ints
  congr 2
  rw [List.map_map]
  conv => rhs; rw [← List.map_id l]
  apply List.map_congr_left
  intro c _
  simp
theorem bytes_ints (l : List UInt8) : Q.bytesOf (ints l) = l := by
  unfold Q.bytesOf ints
  rw [List.map_map]
  conv => rhs; rw [← List.map_id l]
  apply List.map_congr_left
  intro c _
  simp
theorem ints_bytes {l : List Int} (h : ∀ x ∈ l, 0 ≤ x ∧ x ≤ 255) : ints (Q.bytesOf l) = l := by
  unfold Q.bytesOf ints
  rw [List.map_map]
  conv => rhs; rw [← List.map_id l]
  apply List.map_congr_left
  intro x hx
  have := h x hx
  simp only [Function.comp, id, UInt8.toNat_ofNat']
  omega
theorem decode_f (l : List UInt8) (hl : l.length ≤ 1048576) : input_Decode.f (ints l) = some ⟨(decodeL l).toArray⟩ := by
  unfold input_Decode.f
  rw [bytes_ints, if_pos ⟨by rw [ints_len]; exact hl, fun x hx => by
    obtain ⟨c, _, rfl⟩ := List.mem_map.1 hx
    exact byte_range c⟩]
theorem decodeS_f (s : ByteArray) (hl : s.size ≤ 1048576) : input_DecodeS.f s = some ⟨(decodeL s.data.toList).toArray⟩ := by
  unfold input_DecodeS.f
  rw [if_pos hl]
theorem known_f : portierelaw01_known.f = some true := rfl
theorem wf_u8 {l : List Int} (h : ∀ x ∈ l, (Lit.int .u8 x).wf = true) : ∀ x ∈ l, 0 ≤ x ∧ x ≤ 255 := by
  intro x hx
  have := h x hx
  unfold Lit.wf at this
  rw [Bool.and_eq_true, decide_eq_true_eq, decide_eq_true_eq] at this
  have e1 : IntKind.u8.min = 0 := by decide
  have e2 : IntKind.u8.max = 255 := by decide
  omega
theorem str_list (s : ByteArray) : (⟨s.data.toList.toArray⟩ : ByteArray) = s := by cases s; rfl
theorem str_toList (a : List UInt8) : (⟨a.toArray⟩ : ByteArray).toList = a := by rw [toList_data]
end Go.Proofs.YtoejbjmdcokojaaDoor.InQ
