/- By hand: lines and columns on lists of bytes. -/
import Derived.Test.YtmljfdkmijepnaaHandBytes
import Derived.Lib.Bytealg
import Derived.Lib.LastIndexByte
import Derived.Lib.IndexLaws
namespace Go.Proofs.Ytmljfdkmijepnaa.Hand
set_option linter.unusedVariables false
set_option linter.unusedSimpArgs false
open Go Go.RowKit Go.Proofs.YtmljfdkmijepnaaW.PrintWords

def begB (c : UInt8) : Bool := decide ((c.toNat : Int) < 128) || decide (191 < (c.toNat : Int))
def posStep (p : Int × Int) (c : UInt8) : Int × Int := if c = 10 then (p.1 + 1, 1) else if begB c = true then (p.1, p.2 + 1) else p
/-- The line and the column behind these bytes. -/
def posOf (l : List UInt8) : Int × Int := l.foldl posStep (1, 1)
def colStep (n : Int) (c : UInt8) : Int := if begB c = true then n + 1 else n
def clampAt (s : ByteArray) (i : Int) : Nat := if i < 0 then 0 else if (s.size : Int) < i then s.size else i.toNat
/-- The first end of a line: what stands ahead, what behind. -/
def cutLine : List UInt8 → Option (List UInt8 × List UInt8)
  | [] => none
  | c :: l => if c = 10 then some ([], l) else (cutLine l).map fun p => (c :: p.1, p.2)

theorem posFold_plain (l : List UInt8) (h : 10 ∉ l) : ∀ p : Int × Int, l.foldl posStep p = (p.1, l.foldl colStep p.2) := by
  induction l with
  | nil => intro p; rfl
  | cons c l ih =>
    intro p
    simp only [List.mem_cons, not_or] at h
    rw [List.foldl_cons, List.foldl_cons]
    have : posStep p c = (p.1, colStep p.2 c) := by
      unfold posStep colStep
      rw [if_neg (fun e => h.1 e.symm)]
      split <;> rfl
    rw [this, ih h.2]
theorem posFold_line (l : List UInt8) : ∀ p : Int × Int, (l.foldl posStep p).1 = p.1 + l.count 10 := by
  induction l with
  | nil => intro p; simp
  | cons c l ih =>
    intro p
    rw [List.foldl_cons, ih]
    unfold posStep
    by_cases hc : c = 10
    · subst hc
      rw [if_pos rfl]
      simp
      omega
    · rw [if_neg hc, List.count_cons_of_ne hc]
      split <;> rfl
/-- What strings.Count and strings.LastIndexByte give. -/
theorem posOf_last (a b : List UInt8) (h : 10 ∉ b) : posOf (a ++ 10 :: b) = (((a ++ 10 :: b).count 10 : Int) + 1, b.foldl colStep 1) := by
  have h1 := posFold_line (a ++ 10 :: b) (1, 1)
  have h2 : (posOf (a ++ 10 :: b)).2 = b.foldl colStep 1 := by
    unfold posOf
    rw [List.foldl_append, List.foldl_cons, posFold_plain b h]
    rfl
  have h3 : posOf (a ++ 10 :: b) = ((posOf (a ++ 10 :: b)).1, (posOf (a ++ 10 :: b)).2) := rfl
  rw [h3, h2]
  unfold posOf at h1 ⊢
  rw [h1]
  congr 1
  simp only
  omega
theorem posOf_none (l : List UInt8) (h : 10 ∉ l) : posOf l = ((l.count 10 : Int) + 1, l.foldl colStep 1) := by
  unfold posOf
  rw [posFold_plain l h, List.count_eq_zero.2 h]
  rfl
/-- In the shelf's own words. -/
theorem posOf_shelf (s : ByteArray) : ∃ m : Nat, Lib.lastIndexByte s 10 + 1 = m ∧ m ≤ s.size ∧ posOf s.data.toList = ((Lib.countByte s.data.toList 10 : Int) + 1, (s.data.toList.drop m).foldl colStep 1) := by
  have hat : ∀ j : Nat, j < s.size → (s.data[j]!).toNat = (s.data.toList.getD j 0).toNat := by
    intro j hj
    have h1 : j < s.data.size := hj
    have h2 : j < s.data.toList.length := by rw [← size_list]; exact hj
    rw [getElem!_pos s.data j h1, List.getD_eq_getElem?_getD, List.getElem?_eq_getElem h2, Option.getD_some]
    rfl
  rcases Lib.lastIndexByte_spec s 10 with ⟨e, h⟩ | ⟨i, hi, e, hc, h⟩
  · refine ⟨0, by rw [e]; rfl, by omega, ?_⟩
    rw [List.drop_zero]
    refine posOf_none _ ?_
    intro hm
    obtain ⟨j, hj, hj2⟩ := List.mem_iff_getElem.1 hm
    have hjs : j < s.size := by rw [size_list]; exact hj
    refine h j hjs ?_
    rw [hat j hjs, List.getD_eq_getElem?_getD, List.getElem?_eq_getElem hj, hj2]
    rfl
  · have hil : i < s.data.toList.length := by rw [← size_list]; exact hi
    have h10 : s.data.toList[i] = 10 := by
      rw [hat i hi, List.getD_eq_getElem?_getD, List.getElem?_eq_getElem hil, Option.getD_some] at hc
      exact UInt8.toNat_inj.1 (by have : (10 : UInt8).toNat = 10 := rfl; omega)
    have hsplit : s.data.toList = s.data.toList.take i ++ 10 :: s.data.toList.drop (i + 1) := by
      conv => lhs; rw [← List.take_append_drop i s.data.toList, List.drop_eq_getElem_cons hil, h10]
    refine ⟨i + 1, by rw [e]; rfl, by omega, ?_⟩
    have hn : 10 ∉ s.data.toList.drop (i + 1) := by
      intro hm
      obtain ⟨j, hj, hj2⟩ := List.mem_iff_getElem.1 hm
      rw [List.getElem_drop] at hj2
      rw [List.length_drop] at hj
      have hjl : i + 1 + j < s.data.toList.length := by omega
      have hjs : i + 1 + j < s.size := by rw [size_list]; exact hjl
      refine h (i + 1 + j) (by omega) hjs ?_
      rw [hat _ hjs, List.getD_eq_getElem?_getD, List.getElem?_eq_getElem hjl, hj2]
      rfl
    have hp := posOf_last (s.data.toList.take i) (s.data.toList.drop (i + 1)) hn
    rw [← hsplit] at hp
    exact hp
theorem cutLine_index (l : List UInt8) : (Lib.indexByte l 10 = -1 ∧ cutLine l = none) ∨ ∃ k : Nat, Lib.indexByte l 10 = k ∧ k < l.length ∧ cutLine l = some (l.take k, l.drop (k + 1)) := by
  induction l with
  | nil => exact .inl ⟨rfl, rfl⟩
  | cons c l ih =>
    unfold Lib.indexByte cutLine
    by_cases hc : c = 10
    · subst hc
      exact .inr ⟨0, by simp, by simp, by simp⟩
    · have hc' : (c == 10) = false := beq_eq_false_iff_ne.2 hc
      rw [if_neg hc, hc']
      rcases ih with ⟨e1, e2⟩ | ⟨k, e1, e2, e3⟩
      · rw [e1, e2]
        exact .inl ⟨by simp, rfl⟩
      · rw [e1, e3]
        refine .inr ⟨k + 1, ?_, by simp only [List.length_cons]; omega, by simp⟩
        rw [if_neg (by simp), if_neg (by rw [beq_iff_eq]; omega)]
        omega

end Go.Proofs.Ytmljfdkmijepnaa.Hand
