/- Plain laws on what is written for a text, on lists of bytes. -/
import Derived.Test.YtebcdfdkgjcmmaaEscSpec
import Derived.Test.YtebcdfdkgjcmmaaHandBytes
import Derived.KernelRfl
namespace Go.Proofs.Ytebcdfdkgjcmmaa.EscLaws
set_option linter.unusedVariables false
set_option linter.unusedSimpArgs false
open Go Go.RowKit Go.Proofs.Ytebcdfdkgjcmmaa.Hand

def escB (q : Bool) (s : ByteArray) : ByteArray := ⟨(escL q s.data.toList).toArray⟩
theorem escB_list (q : Bool) (s : ByteArray) : (escB q s).data.toList = escL q s.data.toList := by unfold escB; simp
theorem escB_size (q : Bool) (s : ByteArray) : (escB q s).size = (escL q s.data.toList).length := by rw [size_list, escB_list]
theorem esc_rep (c : UInt8) : (repB c).data.toList = 38 :: 97 :: 109 :: 112 :: [59] ∧ c = 38 ∨ (repB c).data.toList = 38 :: 108 :: 116 :: [59] ∧ c = 60 ∨ (repB c).data.toList = 38 :: 103 :: 116 :: [59] ∧ c = 62 ∨ (repB c).data.toList = 38 :: 113 :: 117 :: 111 :: 116 :: [59] ∧ c ≠ 38 ∧ c ≠ 60 ∧ c ≠ 62 := by
  unfold repB
  by_cases h1 : c = 38
  · rw [if_pos h1]; exact .inl ⟨rfl, h1⟩
  · rw [if_neg h1]
    by_cases h2 : c = 60
    · rw [if_pos h2]; exact .inr (.inl ⟨rfl, h2⟩)
    · rw [if_neg h2]
      by_cases h3 : c = 62
      · rw [if_pos h3]; exact .inr (.inr (.inl ⟨rfl, h3⟩))
      · rw [if_neg h3]; exact .inr (.inr (.inr ⟨rfl, h1, h2, h3⟩))
theorem nbsp_list : nbspB.data.toList = [38, 110, 98, 115, 112, 59] := rfl
/-- By what stands at the head. -/
theorem esc_ind {q : Bool} {P : List UInt8 → Prop} (h0 : P []) (hs : ∀ c l, special q c = true → P l → P (c :: l)) (hn : ∀ l, P l → P (194 :: 160 :: l))
    (hp : ∀ c l, special q c = false → ¬ (c = 194 ∧ l.head? = some 160) → P l → P (c :: l)) : ∀ (n : Nat) (l : List UInt8), l.length ≤ n → P l := by
  intro n
  induction n with
  | zero =>
    intro l hl
    have : l = [] := List.eq_nil_of_length_eq_zero (by omega)
    rw [this]; exact h0
  | succ n ih =>
    intro l hl
    cases l with
    | nil => exact h0
    | cons c l =>
      have hl' : l.length ≤ n := by simp at hl; omega
      cases hsp : special q c with
      | true => exact hs c l hsp (ih l hl')
      | false =>
        by_cases hc : c = 194 ∧ l.head? = some 160
        · obtain ⟨h1, h2⟩ := hc
          cases l with
          | nil => simp at h2
          | cons d l =>
            have : d = 160 := by simpa using h2
            rw [h1, this]
            exact hn l (ih l (by simp at hl'; omega))
        · exact hp c l hsp hc (ih l hl')
theorem esc_len (q : Bool) (l : List UInt8) : l.length ≤ (escL q l).length ∧ (escL q l).length ≤ 6 * l.length := by
  refine esc_ind (q := q) (P := fun l => l.length ≤ (escL q l).length ∧ (escL q l).length ≤ 6 * l.length) ⟨by simp [escL], by simp [escL]⟩ (fun c l h ih => ?_) (fun l ih => ?_) (fun c l h h2 ih => ?_) l.length l (Nat.le_refl _)
  · rw [escL_special q c l h, List.length_append]
    rcases esc_rep c with ⟨e, _⟩ | ⟨e, _⟩ | ⟨e, _⟩ | ⟨e, _⟩ <;> (rw [e]; simp only [List.length_cons, List.length_nil]; omega)
  · rw [escL_nbsp, List.length_append, nbsp_list]
    simp only [List.length_cons, List.length_nil]
    omega
  · rw [escL_plain q c l h h2]
    simp only [List.length_cons]
    omega
theorem special_le (c : UInt8) (h : special false c = true) : special true c = true := by
  unfold special at *; simp at *; rcases h with (h | h) | h <;> simp [h]
theorem esc_more (l : List UInt8) : (escL false l).length ≤ (escL true l).length := by
  refine esc_ind (q := true) (P := fun l => (escL false l).length ≤ (escL true l).length) (by simp [escL]) (fun c l h ih => ?_) (fun l ih => ?_) (fun c l h h2 ih => ?_) l.length l (Nat.le_refl _)
  · rw [escL_special true c l h, List.length_append]
    cases h3 : special false c with
    | true => rw [escL_special false c l h3, List.length_append]; omega
    | false =>
      rw [escL_plain false c l h3 (fun e => by rw [e.1] at h; revert h; decide), List.length_cons]
      rcases esc_rep c with ⟨e, _⟩ | ⟨e, _⟩ | ⟨e, _⟩ | ⟨e, _⟩ <;> (rw [e]; simp only [List.length_cons, List.length_nil]; omega)
  · rw [escL_nbsp, escL_nbsp, List.length_append, List.length_append]; omega
  · have h3 : special false c = false := by
      cases h4 : special false c with
      | false => rfl
      | true => rw [special_le c h4] at h; cases h
    rw [escL_plain true c l h h2, escL_plain false c l h3 h2, List.length_cons, List.length_cons]
    omega
theorem esc_letters (q : Bool) : ∀ (l : List UInt8), (∀ c ∈ l, 97 ≤ c.toNat ∧ c.toNat ≤ 122) → escL q l = l := by
  intro l
  induction l with
  | nil => intro _; rfl
  | cons c l ih =>
    intro h
    have hc := h c List.mem_cons_self
    have hn : ∀ d : UInt8, (d.toNat < 97 ∨ 122 < d.toNat) → ¬ c = d := by rintro d hd rfl; omega
    rw [escL_plain q c l ?_ ?_, ih (fun d hd => h d (List.mem_cons_of_mem _ hd))]
    · unfold special
      simp only [Bool.or_eq_false_iff, Bool.and_eq_false_imp, beq_eq_false_iff_ne]
      exact ⟨⟨⟨hn 38 (by decide), hn 60 (by decide)⟩, hn 62 (by decide)⟩, fun _ => hn 34 (by decide)⟩
    · exact fun e => hn 194 (by decide) e.1
theorem esc_parts (q : Bool) (s t : List UInt8) (h : s.getLast? ≠ some 194) : escL q (s ++ t) = escL q s ++ escL q t := by
  refine esc_ind (q := q) (P := fun s => s.getLast? ≠ some 194 → escL q (s ++ t) = escL q s ++ escL q t) (fun _ => by simp [escL]) (fun c l h ih => ?_) (fun l ih => ?_) (fun c l h h2 ih => ?_) s.length s (Nat.le_refl _) h
  · intro hl
    have hl' : l.getLast? ≠ some 194 := by
      cases l with
      | nil => simp
      | cons d l => rwa [List.getLast?_cons_cons] at hl
    rw [List.cons_append, escL_special q c _ h, escL_special q c l h, ih hl', List.append_assoc]
  · intro hl
    have hl' : l.getLast? ≠ some 194 := by
      cases l with
      | nil => simp
      | cons d l => rwa [List.getLast?_cons_cons, List.getLast?_cons_cons] at hl
    rw [List.cons_append, List.cons_append, escL_nbsp, escL_nbsp, ih hl', List.append_assoc]
  · intro hl
    cases l with
    | nil =>
      have hc : ¬ c = 194 := by rintro rfl; simp at hl
      rw [List.cons_append, List.nil_append, escL_plain q c t h (fun e => hc e.1), escL_plain q c [] h (fun e => hc e.1)]
      rfl
    | cons d l =>
      rw [List.getLast?_cons_cons] at hl
      rw [List.cons_append, escL_plain q c (d :: l ++ t) h (by simpa using h2), escL_plain q c (d :: l) h h2, ih hl]
      rfl
/-- Behind each '&' stands one of four letters, and two bytes more. -/
def Amps (l : List UInt8) : Prop := ∀ i, l[i]? = some 38 → i + 3 < l.length ∧ (l[i + 1]? = some 97 ∨ l[i + 1]? = some 108 ∨ l[i + 1]? = some 103 ∨ l[i + 1]? = some 110)
theorem amps_cons {c : UInt8} {l : List UInt8} (h : Amps l) (hc : c ≠ 38) : Amps (c :: l) := by
  intro i hi
  cases i with
  | zero => simp at hi; exact absurd hi hc
  | succ i =>
    rw [List.getElem?_cons_succ] at hi
    obtain ⟨h1, h2⟩ := h i hi
    refine ⟨by rw [List.length_cons]; omega, ?_⟩
    rw [List.getElem?_cons_succ]
    exact h2
theorem amps_amp {d e f : UInt8} {l : List UInt8} (h : Amps (d :: e :: f :: l)) (hd : d = 97 ∨ d = 108 ∨ d = 103 ∨ d = 110) : Amps (38 :: d :: e :: f :: l) := by
  intro i hi
  cases i with
  | zero =>
    refine ⟨by simp only [List.length_cons]; omega, ?_⟩
    rw [List.getElem?_cons_succ, List.getElem?_cons_zero]
    rcases hd with rfl | rfl | rfl | rfl <;> simp
  | succ i =>
    rw [List.getElem?_cons_succ] at hi
    obtain ⟨h1, h2⟩ := h i hi
    refine ⟨by rw [List.length_cons]; omega, ?_⟩
    rw [List.getElem?_cons_succ]
    exact h2
theorem esc_amps (l : List UInt8) : Amps (escL false l) := by
  refine esc_ind (q := false) (P := fun l => Amps (escL false l)) (by intro i hi; simp [escL] at hi) (fun c l h ih => ?_) (fun l ih => ?_) (fun c l h h2 ih => ?_) l.length l (Nat.le_refl _)
  · rw [escL_special false c l h]
    rcases esc_rep c with ⟨e, _⟩ | ⟨e, _⟩ | ⟨e, _⟩ | ⟨e, h1, h2, h3⟩
    · rw [e]
      exact amps_amp (amps_cons (amps_cons (amps_cons (amps_cons ih (by decide)) (by decide)) (by decide)) (by decide)) (by simp)
    · rw [e]
      exact amps_amp (amps_cons (amps_cons (amps_cons ih (by decide)) (by decide)) (by decide)) (by simp)
    · rw [e]
      exact amps_amp (amps_cons (amps_cons (amps_cons ih (by decide)) (by decide)) (by decide)) (by simp)
    · exfalso
      unfold special at h
      simp [h1, h2, h3] at h
  · rw [escL_nbsp, nbsp_list]
    exact amps_amp (amps_cons (amps_cons (amps_cons (amps_cons (amps_cons ih (by decide)) (by decide)) (by decide)) (by decide)) (by decide)) (by simp)
  · rw [escL_plain false c l h h2]
    refine amps_cons ih ?_
    rintro rfl
    revert h; decide
/-- The signs that stand nowhere in what is written. -/
theorem esc_none (q : Bool) (x : UInt8) (hx : special q x = true) (hx2 : x ≠ 38) (l : List UInt8) : x ∉ escL q l := by
  have hb : x ≠ 97 ∧ x ≠ 109 ∧ x ≠ 112 ∧ x ≠ 59 ∧ x ≠ 108 ∧ x ≠ 116 ∧ x ≠ 103 ∧ x ≠ 110 ∧ x ≠ 98 ∧ x ≠ 115 ∧ x ≠ 113 ∧ x ≠ 117 ∧ x ≠ 111 := by
    refine ⟨?_, ?_, ?_, ?_, ?_, ?_, ?_, ?_, ?_, ?_, ?_, ?_, ?_⟩ <;> (rintro rfl; revert hx; cases q <;> decide)
  obtain ⟨b1, b2, b3, b4, b5, b6, b7, b8, b9, b10, b11, b12, b13⟩ := hb
  refine esc_ind (q := q) (P := fun l => x ∉ escL q l) (by simp [escL]) (fun c l h ih => ?_) (fun l ih => ?_) (fun c l h h2 ih => ?_) l.length l (Nat.le_refl _)
  · rw [escL_special q c l h, List.mem_append]
    rintro (h3 | h3)
    · rcases esc_rep c with ⟨e, _⟩ | ⟨e, _⟩ | ⟨e, _⟩ | ⟨e, _⟩ <;> (rw [e] at h3; simp [*] at h3)
    · exact ih h3
  · rw [escL_nbsp, List.mem_append, nbsp_list]
    rintro (h3 | h3)
    · simp [*] at h3
    · exact ih h3
  · rw [escL_plain q c l h h2, List.mem_cons]
    rintro (rfl | h3)
    · rw [h] at hx; cases hx
    · exact ih h3
end Go.Proofs.Ytebcdfdkgjcmmaa.EscLaws
