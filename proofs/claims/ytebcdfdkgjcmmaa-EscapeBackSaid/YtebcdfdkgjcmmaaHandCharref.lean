/- By hand: what package charref computes, on bytes alone. -/
import Derived.Test.YtebcdfdkgjcmmaaHandRunes
namespace Go.Proofs.Ytebcdfdkgjcmmaa.Hand
set_option linter.unusedVariables false
set_option linter.unusedSimpArgs false
open Go Go.RowKit Go.Proofs.YtebcdfdkgjcmmaaW.PrintWords

/-- A byte's digit; below 0: none. -/
def digitOf (c : Int) : Int := if 48 ≤ c ∧ c ≤ 57 then c - 48 else if 97 ≤ c ∧ c ≤ 102 then c - 97 + 10 else if 65 ≤ c ∧ c ≤ 70 then c - 65 + 10 else -1

/-- How many digits of a base stand first, and their number. -/
def digitsOf : List UInt8 → Int → Int → Int → Int × Int
  | [], _, i, n => (i, n)
  | c :: l, base, i, n =>
    let d := digitOf c.toNat
    if d < 0 ∨ base ≤ d then (i, n) else digitsOf l base (i + 1) (min (n * base + d) 1114112)

/-- A code point as a text, and its fault. -/
def toldTab : List Int := [0x20ac, 0x81, 0x201a, 0x0192, 0x201e, 0x2026, 0x2020, 0x2021, 0x02c6, 0x2030, 0x0160, 0x2039, 0x0152, 0x8d, 0x017d, 0x8f,
  0x90, 0x2018, 0x2019, 0x201c, 0x201d, 0x2022, 0x2013, 0x2014, 0x02dc, 0x2122, 0x0161, 0x203a, 0x0153, 0x9d, 0x017e, 0x0178]
def pointOf (n : Int) : ByteArray × Int :=
  if n = 0 ∨ 1114111 < n ∨ ¬ (0 ≤ n ∧ n < 55296 ∨ 57343 < n ∧ n ≤ 1114111) then (⟨#[239, 191, 189]⟩, 2)
  else if 128 ≤ n ∧ n ≤ 159 then (Utf8.encode (toldTab.getD (n - 128).toNat 0), 2)
  else (Utf8.encode n, 0)

/-- The names: each, its code, is it bare. -/
def named : List (ByteArray × Int × Bool) := [
  (⟨#[97, 109, 112]⟩, 38, true), (⟨#[108, 116]⟩, 60, true), (⟨#[103, 116]⟩, 62, true), (⟨#[113, 117, 111, 116]⟩, 34, true), (⟨#[97, 112, 111, 115]⟩, 39, false),
  (⟨#[110, 98, 115, 112]⟩, 160, true), (⟨#[99, 111, 112, 121]⟩, 169, true), (⟨#[114, 101, 103]⟩, 174, true), (⟨#[104, 101, 108, 108, 105, 112]⟩, 8230, false),
  (⟨#[109, 100, 97, 115, 104]⟩, 8212, false), (⟨#[110, 100, 97, 115, 104]⟩, 8211, false), (⟨#[108, 115, 113, 117, 111]⟩, 8216, false), (⟨#[114, 115, 113, 117, 111]⟩, 8217, false),
  (⟨#[108, 100, 113, 117, 111]⟩, 8220, false), (⟨#[114, 100, 113, 117, 111]⟩, 8221, false), (⟨#[101, 117, 114, 111]⟩, 8364, false), (⟨#[116, 105, 109, 101, 115]⟩, 215, true),
  (⟨#[100, 105, 118, 105, 100, 101]⟩, 247, true), (⟨#[112, 97, 114, 97]⟩, 182, true), (⟨#[115, 101, 99, 116]⟩, 167, true), (⟨#[110, 111, 116]⟩, 172, true), (⟨#[110, 111, 116, 105, 110]⟩, 8713, false)]

/-- One name's turn: t is what stands behind the sign. -/
def nameStep (t : List UInt8) (a : ByteArray × Int × Int) (x : ByteArray × Int × Bool) : ByteArray × Int × Int :=
  if x.1.data.toList.isPrefixOf t then
    let whole := (t.drop x.1.size).head? == some 59
    let n : Int := 1 + x.1.size + (if whole then 1 else 0)
    if (whole = true ∨ x.2.2 = true) ∧ a.2.1 < n then (Utf8.encode x.2.1, n, if whole then 0 else 1) else a
  else a
def wordB (c : Int) : Bool := c == 61 || (decide (97 ≤ c) && decide (c ≤ 122)) || (decide (65 ≤ c) && decide (c ≤ 90)) || (decide (48 ≤ c) && decide (c ≤ 57))
/-- A reference by a name: t is what stands behind the sign. -/
def nameRef (t : List UInt8) (attr : Bool) : ByteArray × Int × Int :=
  let a := named.foldl (nameStep t) (⟨#[]⟩, 0, 0)
  if attr = true ∧ a.2.2 ≠ 0 ∧ (match t.drop (a.2.1 - 1).toNat with | c :: _ => wordB c.toNat | [] => false) = true then (⟨#[]⟩, 0, 0) else a
/-- A reference by a number: t is what stands behind '&#'. -/
def numRef (t : List UInt8) : ByteArray × Int × Int :=
  let hex := t.head? == some 120 || t.head? == some 88
  let r := if hex then t.tail else t
  let kn := digitsOf r (if hex then 16 else 10) 0 0
  if kn.1 = 0 then (⟨#[]⟩, 0, 0) else
  let pf := pointOf kn.2
  let semi := (r.drop kn.1.toNat).head? == some 59
  (pf.1, 2 + (if hex then 1 else 0) + kn.1 + (if semi then 1 else 0), if semi then pf.2 else if pf.2 = 0 then 1 else pf.2)
/-- A reference at the begin of l. -/
def refAt (l : List UInt8) (attr : Bool) : ByteArray × Int × Int :=
  match l with
  | 38 :: 35 :: t => numRef t
  | 38 :: t => nameRef t attr
  | _ => (⟨#[]⟩, 0, 0)
def takeOf (s : ByteArray) (i : Int) (attr : Bool) : ByteArray × Int × Int :=
  if i < 0 ∨ s.size ≤ i then (⟨#[]⟩, 0, 0) else refAt (s.data.toList.drop i.toNat) attr
/-- A text whose references are characters (fuel: its length). -/
def allOf : Nat → List UInt8 → Bool → List UInt8
  | 0, _, _ => []
  | _, [], _ => []
  | k + 1, c :: l, attr =>
    let r := refAt (c :: l) attr
    if 0 < r.2.1 then r.1.data.toList ++ allOf k ((c :: l).drop r.2.1.toNat) attr else c :: allOf k l attr
def textOf (l : List UInt8) : ByteArray := ⟨l.toArray⟩


theorem digitsOf_bound (l : List UInt8) : ∀ (base i n : Int), i ≤ (digitsOf l base i n).1 ∧ (digitsOf l base i n).1 ≤ i + l.length := by
  induction l with
  | nil => intro base i n; simp [digitsOf]
  | cons c l ih =>
    intro base i n
    unfold digitsOf
    simp only
    split
    · simp; omega
    · have := ih base (i + 1) (min (n * base + digitOf c.toNat) 1114112)
      simp only [List.length_cons]
      omega
theorem digitsOf_num (l : List UInt8) : ∀ (base i n : Int), 2 ≤ base → 0 ≤ n → n ≤ 1114112 → 0 ≤ (digitsOf l base i n).2 ∧ (digitsOf l base i n).2 ≤ 1114112 := by
  induction l with
  | nil => intro base i n hb h0 h1; exact ⟨h0, h1⟩
  | cons c l ih =>
    intro base i n hb h0 h1
    unfold digitsOf
    simp only
    split
    · exact ⟨h0, h1⟩
    · rename_i hd
      have : 0 ≤ n * base := Int.mul_nonneg h0 (by omega)
      exact ih base (i + 1) _ hb (by omega) (by omega)
theorem encode_le (n : Int) : (Utf8.encode n).size ≤ 4 := encode_size_le n
theorem pointOf_le (n : Int) : (pointOf n).1.size ≤ 4 := by
  unfold pointOf
  repeat' split
  · decide
  · exact encode_le _
  · exact encode_le _
theorem head_drop_len {t : List UInt8} {k : Nat} {c : UInt8} (h : ((t.drop k).head? == some c) = true) : k + 1 ≤ t.length := by
  rcases Nat.lt_or_ge k t.length with h1 | h1
  · omega
  · rw [List.drop_of_length_le h1] at h
    simp at h
theorem numRef_bound (t : List UInt8) : 0 ≤ (numRef t).2.1 ∧ (numRef t).2.1 ≤ t.length + 2 ∧ (numRef t).1.size ≤ 4 := by
  have hz : ((⟨#[]⟩ : ByteArray)).size ≤ 4 := by decide
  have key : ∀ (r : List UInt8) (base x : Int), 0 ≤ x → r.length + x ≤ t.length → ∀ z : ByteArray × Int × Int, z = (if (digitsOf r base 0 0).1 = 0 then ((⟨#[]⟩ : ByteArray), (0 : Int), (0 : Int)) else
      ((pointOf (digitsOf r base 0 0).2).1, 2 + x + (digitsOf r base 0 0).1 + (if ((r.drop (digitsOf r base 0 0).1.toNat).head? == some 59) = true then 1 else 0),
        if ((r.drop (digitsOf r base 0 0).1.toNat).head? == some 59) = true then (pointOf (digitsOf r base 0 0).2).2 else if (pointOf (digitsOf r base 0 0).2).2 = 0 then 1 else (pointOf (digitsOf r base 0 0).2).2)) →
      0 ≤ z.2.1 ∧ z.2.1 ≤ t.length + 2 ∧ z.1.size ≤ 4 := by
    intro r base x hx hl z hz'
    subst hz'
    have h1 := digitsOf_bound r base 0 0
    split
    · exact ⟨by simp, by simp; omega, hz⟩
    · refine ⟨?_, ?_, pointOf_le _⟩
      · simp only; split <;> omega
      · simp only
        by_cases hs : ((r.drop (digitsOf r base 0 0).1.toNat).head? == some 59) = true
        · have := head_drop_len hs
          rw [if_pos hs]
          omega
        · rw [if_neg hs]
          omega
  by_cases hb : (t.head? == some 120 || t.head? == some 88) = true
  · have ht : t.tail.length + 1 = t.length := by
      cases t with
      | nil => simp at hb
      | cons a t => simp
    refine key t.tail 16 1 (by omega) (by omega) _ ?_
    unfold numRef
    simp only [hb, if_true]
  · refine key t 10 0 (by omega) (by omega) _ ?_
    unfold numRef
    simp only [hb]
    rfl
theorem nameStep_bound (t : List UInt8) (a : ByteArray × Int × Int) (x : ByteArray × Int × Bool) (h : 0 ≤ a.2.1 ∧ a.2.1 ≤ t.length + 1 ∧ a.1.size ≤ 4) :
    0 ≤ (nameStep t a x).2.1 ∧ (nameStep t a x).2.1 ≤ t.length + 1 ∧ (nameStep t a x).1.size ≤ 4 := by
  unfold nameStep
  split
  · rename_i hp
    have hlen : x.1.size ≤ t.length := by
      have := (List.isPrefixOf_iff_prefix.1 hp).length_le
      simpa using this
    have hw : ((t.drop x.1.size).head? == some 59) = true → x.1.size + 1 ≤ t.length := fun hs => head_drop_len hs
    generalize ((t.drop x.1.size).head? == some 59) = b at *
    cases b with
    | true =>
      have := hw rfl
      simp only [if_true]
      split
      · exact ⟨by simp only; omega, by simp only; omega, encode_le _⟩
      · exact h
    | false =>
      simp only [Bool.false_eq_true, if_false]
      split
      · exact ⟨by simp only; omega, by simp only; omega, encode_le _⟩
      · exact h
  · exact h
theorem nameFold_bound (t : List UInt8) (xs : List (ByteArray × Int × Bool)) : ∀ a : ByteArray × Int × Int, (0 ≤ a.2.1 ∧ a.2.1 ≤ t.length + 1 ∧ a.1.size ≤ 4) →
    0 ≤ (xs.foldl (nameStep t) a).2.1 ∧ (xs.foldl (nameStep t) a).2.1 ≤ t.length + 1 ∧ (xs.foldl (nameStep t) a).1.size ≤ 4 := by
  induction xs with
  | nil => intro a h; exact h
  | cons x xs ih => intro a h; exact ih _ (nameStep_bound t a x h)
theorem nameRef_bound (t : List UInt8) (attr : Bool) : 0 ≤ (nameRef t attr).2.1 ∧ (nameRef t attr).2.1 ≤ t.length + 1 ∧ (nameRef t attr).1.size ≤ 4 := by
  have h := nameFold_bound t named (⟨#[]⟩, 0, 0) ⟨by simp, by simp; omega, by decide⟩
  unfold nameRef
  simp only
  generalize named.foldl (nameStep t) (⟨#[]⟩, 0, 0) = a at *
  split <;> split
  all_goals first | exact h | exact ⟨by simp, by simp; omega, by decide⟩
theorem refAt_bound (l : List UInt8) (attr : Bool) : 0 ≤ (refAt l attr).2.1 ∧ (refAt l attr).2.1 ≤ l.length ∧ (refAt l attr).1.size ≤ 4 := by
  unfold refAt
  split
  · rename_i t
    have := numRef_bound t
    simp only [List.length_cons]; omega
  · rename_i t _
    have := nameRef_bound t attr
    simp only [List.length_cons]; omega
  · exact ⟨by simp, by simp, by decide⟩
theorem allOf_fuel (attr : Bool) : ∀ (n : Nat) (l : List UInt8), l.length ≤ n → ∀ k, l.length ≤ k → allOf k l attr = allOf l.length l attr := by
  intro n
  induction n with
  | zero =>
    intro l hl k hk
    obtain rfl : l = [] := List.eq_nil_of_length_eq_zero (by omega)
    cases k <;> simp [allOf]
  | succ n ih =>
    intro l hl k hk
    cases l with
    | nil => cases k <;> simp [allOf]
    | cons c l =>
      obtain ⟨k, rfl⟩ : ∃ m, k = m + 1 := ⟨k - 1, by simp at hk; omega⟩
      simp only [List.length_cons] at hl hk ⊢
      unfold allOf
      simp only
      by_cases h : 0 < (refAt (c :: l) attr).2.1
      · rw [if_pos h, if_pos h]
        obtain ⟨m, hm⟩ : ∃ m : Nat, (refAt (c :: l) attr).2.1.toNat = m + 1 := ⟨(refAt (c :: l) attr).2.1.toNat - 1, by omega⟩
        rw [hm, List.drop_succ_cons]
        have hdl : (l.drop m).length ≤ l.length := by simp
        rw [ih (l.drop m) (by omega) k (by omega), ih (l.drop m) (by omega) l.length (by omega)]
      · rw [if_neg h, if_neg h]
        rw [ih l (by omega) k (by omega)]
/-- One step of the reading. -/
theorem allOf_cons (attr : Bool) (c : UInt8) (l : List UInt8) : allOf (l.length + 1) (c :: l) attr =
    if 0 < (refAt (c :: l) attr).2.1 then (refAt (c :: l) attr).1.data.toList ++ allOf ((c :: l).drop (refAt (c :: l) attr).2.1.toNat).length ((c :: l).drop (refAt (c :: l) attr).2.1.toNat) attr
    else c :: allOf l.length l attr := by
  conv => lhs; unfold allOf
  simp only
  split
  · rename_i h
    congr 1
    refine allOf_fuel attr _ _ (Nat.le_refl _) _ ?_
    rw [List.length_drop, List.length_cons]
    omega
  · rfl

end Go.Proofs.Ytebcdfdkgjcmmaa.Hand
