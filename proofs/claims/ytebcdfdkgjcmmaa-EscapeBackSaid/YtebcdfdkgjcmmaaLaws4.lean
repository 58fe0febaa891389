/- Plain laws on references: names with a semicolon, digits, texts one behind the other. -/
import Derived.Test.YtebcdfdkgjcmmaaHandBytes
import Derived.Test.YtebcdfdkgjcmmaaHandCharref
import Derived.KernelRfl
namespace Go.Proofs.Ytebcdfdkgjcmmaa.Laws4
set_option linter.unusedVariables false
set_option linter.unusedSimpArgs false
open Go Go.RowKit Go.Proofs.Ytebcdfdkgjcmmaa.Hand

theorem textOf_data (l : List UInt8) : (textOf l).data.toList = l := by unfold textOf; simp
/-! ### Names -/
def nmD : ByteArray × Int × Bool := (⟨#[]⟩, 0, false)
theorem ends_of (i : Nat) (hi : i < 22) (more : List UInt8) (attr : Bool) :
    nameRef ((named.getD i nmD).1.data.toList ++ 59 :: more) attr = (Utf8.encode (named.getD i nmD).2.1, ((named.getD i nmD).1.size : Int) + 2, 0) := by
  have h : i = 0 ∨ i = 1 ∨ i = 2 ∨ i = 3 ∨ i = 4 ∨ i = 5 ∨ i = 6 ∨ i = 7 ∨ i = 8 ∨ i = 9 ∨ i = 10 ∨ i = 11 ∨ i = 12 ∨ i = 13 ∨ i = 14 ∨ i = 15 ∨ i = 16 ∨ i = 17 ∨ i = 18 ∨ i = 19 ∨ i = 20 ∨ i = 21 := by omega
  rcases h with h | h | h | h | h | h | h | h | h | h | h | h | h | h | h | h | h | h | h | h | h | h <;> (subst h; cases attr <;> rfl)
theorem no_hash (i : Nat) (hi : i < 22) (more : List UInt8) (attr : Bool) :
    refAt (38 :: ((named.getD i nmD).1.data.toList ++ 59 :: more)) attr = nameRef ((named.getD i nmD).1.data.toList ++ 59 :: more) attr := by
  have h : i = 0 ∨ i = 1 ∨ i = 2 ∨ i = 3 ∨ i = 4 ∨ i = 5 ∨ i = 6 ∨ i = 7 ∨ i = 8 ∨ i = 9 ∨ i = 10 ∨ i = 11 ∨ i = 12 ∨ i = 13 ∨ i = 14 ∨ i = 15 ∨ i = 16 ∨ i = 17 ∨ i = 18 ∨ i = 19 ∨ i = 20 ∨ i = 21 := by omega
  rcases h with h | h | h | h | h | h | h | h | h | h | h | h | h | h | h | h | h | h | h | h | h | h <;> (subst h; rfl)
theorem encode_ne (n : Int) : (Utf8.encode n).data.toList ≠ [] := by
  unfold Utf8.encode
  simp only
  repeat' split
  all_goals simp

/-! ### What is none -/
theorem refAt_none (c : UInt8) (l : List UInt8) (attr : Bool) (h : c ≠ 38) : refAt (c :: l) attr = (⟨#[]⟩, 0, 0) := by
  unfold refAt
  split
  · rename_i e; injection e with e; exact absurd e h
  · rename_i e; injection e with e; exact absurd e h
  · rfl
theorem names_letters : ∀ x ∈ named, ∃ a l, x.1.data.toList = a :: l ∧ a ≠ 32 ∧ 32 ∉ l ∧ 59 ∉ (a :: l) := by
  unfold named
  simp only [List.mem_cons, List.not_mem_nil, or_false]
  intro x hx
  rcases hx with h | h | h | h | h | h | h | h | h | h | h | h | h | h | h | h | h | h | h | h | h | h <;> (subst h; exact ⟨_, _, rfl, by decide, by decide, by decide⟩)
theorem fold_none (T : List UInt8) (xs : List (ByteArray × Int × Bool)) (h : ∀ x ∈ xs, x.1.data.toList.isPrefixOf T = false) : ∀ a, xs.foldl (nameStep T) a = a := by
  induction xs with
  | nil => intro a; rfl
  | cons x xs ih =>
    intro a
    rw [List.foldl_cons]
    have h1 : nameStep T a x = a := by
      unfold nameStep
      rw [if_neg (by rw [h x List.mem_cons_self]; simp)]
    rw [h1]
    exact ih (fun y hy => h y (List.mem_cons_of_mem _ hy)) a
theorem refAt_blank (t : List UInt8) (attr : Bool) : refAt (38 :: 32 :: t) attr = (⟨#[]⟩, 0, 0) := by
  show nameRef (32 :: t) attr = _
  unfold nameRef
  rw [fold_none]
  · simp
  · intro x hx
    obtain ⟨a, l, e, ha, _⟩ := names_letters x hx
    rw [e]
    simp [List.isPrefixOf, ha]
theorem allOf_plain (attr : Bool) : ∀ (l : List UInt8), 38 ∉ l → allOf l.length l attr = l := by
  intro l
  induction l with
  | nil => intro _; rfl
  | cons c l ih =>
    intro h
    simp only [List.mem_cons, not_or] at h
    rw [List.length_cons, allOf_cons, refAt_none c l attr (fun e => h.1 e.symm), if_neg (by simp), ih h.2]
theorem allOf_len (attr : Bool) : ∀ (n : Nat) (l : List UInt8), l.length ≤ n → (allOf l.length l attr).length ≤ 4 * l.length := by
  intro n
  induction n with
  | zero => intro l hl; obtain rfl : l = [] := List.eq_nil_of_length_eq_zero (by omega); simp [allOf]
  | succ n ih =>
    intro l hl
    cases l with
    | nil => simp [allOf]
    | cons c l =>
      rw [List.length_cons, allOf_cons]
      have hb := refAt_bound (c :: l) attr
      simp only [List.length_cons] at hb hl
      by_cases h : 0 < (refAt (c :: l) attr).2.1
      · rw [if_pos h]
        have := ih ((c :: l).drop (refAt (c :: l) attr).2.1.toNat) (by rw [List.length_drop, List.length_cons]; omega)
        rw [List.length_append, ← size_list]
        rw [List.length_drop, List.length_cons] at this ⊢
        omega
      · rw [if_neg h]
        have := ih l (by omega)
        rw [List.length_cons]
        omega

/-! ### A blank ends whatever stands ahead of it -/
theorem digits_blank (l t : List UInt8) (base : Int) (hb : 1 ≤ base) : ∀ i n : Int, digitsOf (l ++ 32 :: t) base i n = digitsOf l base i n := by
  induction l with
  | nil =>
    intro i n
    have : digitOf ((32 : UInt8).toNat : Int) = -1 := by decide
    show digitsOf (32 :: t) base i n = (i, n)
    unfold digitsOf
    simp only
    rw [this, if_pos (.inl (by decide))]
  | cons c l ih =>
    intro i n
    show digitsOf (c :: (l ++ 32 :: t)) base i n = digitsOf (c :: l) base i n
    unfold digitsOf
    simp only
    split
    · rfl
    · exact ih _ _
theorem head_blank (l t : List UInt8) (c : UInt8) (hc : c ≠ 32) (k : Nat) (hk : k ≤ l.length) : (((l ++ 32 :: t).drop k).head? == some c) = ((l.drop k).head? == some c) := by
  rw [List.drop_append_of_le_length hk]
  cases h : l.drop k with
  | nil => simp [Ne.symm hc]
  | cons a m => simp
theorem numRef_blank (l t : List UInt8) : numRef (l ++ 32 :: t) = numRef l := by
  have key : ∀ (r : List UInt8) (base : Int), 1 ≤ base → digitsOf (r ++ 32 :: t) base 0 0 = digitsOf r base 0 0 ∧ (((r ++ 32 :: t).drop (digitsOf r base 0 0).1.toNat).head? == some 59) = ((r.drop (digitsOf r base 0 0).1.toNat).head? == some 59) := by
    intro r base hb
    have h := digitsOf_bound r base 0 0
    exact ⟨digits_blank r t base hb 0 0, head_blank r t 59 (by decide) _ (by omega)⟩
  have h1 := head_blank l t 120 (by decide) 0 (by omega)
  have h2 := head_blank l t 88 (by decide) 0 (by omega)
  simp only [List.drop_zero] at h1 h2
  unfold numRef
  rw [h1, h2]
  cases hx : (l.head? == some 120 || l.head? == some 88) with
  | false =>
    simp only [Bool.false_eq_true, if_false]
    obtain ⟨e1, e2⟩ := key l 10 (by decide)
    rw [e1, e2]
  | true =>
    have hl : (l ++ 32 :: t).tail = l.tail ++ 32 :: t := by
      cases l with
      | nil => simp at hx
      | cons a l => rfl
    simp only [if_true]
    rw [hl]
    obtain ⟨e1, e2⟩ := key l.tail 16 (by decide)
    rw [e1, e2]
theorem prefix_blank (p l t : List UInt8) (hp : 32 ∉ p) : p.isPrefixOf (l ++ 32 :: t) = p.isPrefixOf l := by
  induction p generalizing l with
  | nil => simp
  | cons a p ih =>
    simp only [List.mem_cons, not_or] at hp
    cases l with
    | nil => simp [List.isPrefixOf, Ne.symm hp.1]
    | cons b l =>
      show (a == b && p.isPrefixOf (l ++ 32 :: t)) = (a == b && p.isPrefixOf l)
      rw [ih l hp.2]
theorem step_blank (l t : List UInt8) (a : ByteArray × Int × Int) (x : ByteArray × Int × Bool) (hx : x ∈ named) : nameStep (l ++ 32 :: t) a x = nameStep l a x := by
  obtain ⟨b, m, e, h1, h2, _⟩ := names_letters x hx
  have hp : x.1.data.toList.isPrefixOf (l ++ 32 :: t) = x.1.data.toList.isPrefixOf l := prefix_blank _ _ _ (by rw [e]; simp [h1.symm, h2])
  unfold nameStep
  rw [hp]
  by_cases h : x.1.data.toList.isPrefixOf l = true
  · have hl : x.1.size ≤ l.length := by
      have := (List.isPrefixOf_iff_prefix.1 h).length_le
      rw [size_list]; exact this
    rw [head_blank l t 59 (by decide) _ hl]
  · rw [if_neg h, if_neg h]
theorem fold_blank (l t : List UInt8) (xs : List (ByteArray × Int × Bool)) (hx : ∀ x ∈ xs, x ∈ named) : ∀ a, xs.foldl (nameStep (l ++ 32 :: t)) a = xs.foldl (nameStep l) a := by
  induction xs with
  | nil => intro a; rfl
  | cons x xs ih =>
    intro a
    rw [List.foldl_cons, List.foldl_cons, step_blank l t a x (hx x List.mem_cons_self)]
    exact ih (fun y hy => hx y (List.mem_cons_of_mem _ hy)) _
theorem nameRef_blank (l t : List UInt8) : nameRef (l ++ 32 :: t) false = nameRef l false := by
  unfold nameRef
  rw [fold_blank l t named (fun _ h => h)]
  simp
theorem refAt_before (c : UInt8) (l t : List UInt8) : refAt (c :: (l ++ 32 :: t)) false = refAt (c :: l) false := by
  by_cases hc : c = 38
  · subst hc
    cases l with
    | nil =>
      rw [List.nil_append, refAt_blank]
      rfl
    | cons d l =>
      by_cases hd : d = 35
      · subst hd
        show numRef (l ++ 32 :: t) = numRef l
        exact numRef_blank l t
      · have h1 : ∀ m : List UInt8, refAt (38 :: d :: m) false = nameRef (d :: m) false := by
          intro m
          unfold refAt
          split
          · rename_i e; injection e with _ e; injection e with e; exact absurd e hd
          · rename_i e; injection e with _ e; rw [e]
          · rename_i e; exact absurd rfl (e (d :: m))
        rw [List.cons_append, h1, h1]
        exact nameRef_blank (d :: l) t
  · rw [refAt_none _ _ _ hc, refAt_none _ _ _ hc]
theorem allOf_parts (t : List UInt8) : ∀ (n : Nat) (l : List UInt8), l.length ≤ n → allOf (l ++ 32 :: t).length (l ++ 32 :: t) false = allOf l.length l false ++ 32 :: allOf t.length t false := by
  intro n
  induction n with
  | zero =>
    intro l hl
    obtain rfl : l = [] := List.eq_nil_of_length_eq_zero (by omega)
    rw [List.nil_append, List.length_cons, allOf_cons, refAt_none _ _ _ (by decide), if_neg (by simp)]
    rfl
  | succ n ih =>
    intro l hl
    cases l with
    | nil => exact ih [] (by simp)
    | cons c l =>
      simp only [List.length_cons] at hl
      rw [List.cons_append, List.length_cons, allOf_cons, List.length_cons, allOf_cons, refAt_before]
      have hb := refAt_bound (c :: l) false
      rw [List.length_cons] at hb
      generalize refAt (c :: l) false = z at *
      by_cases h : 0 < z.2.1
      · rw [if_pos h, if_pos h]
        have hk : z.2.1.toNat ≤ (c :: l).length := by rw [List.length_cons]; omega
        have e : (c :: (l ++ 32 :: t)).drop z.2.1.toNat = (c :: l).drop z.2.1.toNat ++ 32 :: t := by
          rw [← List.cons_append, List.drop_append_of_le_length hk]
        rw [e, ih _ (by rw [List.length_drop, List.length_cons]; omega), List.append_assoc]
      · rw [if_neg h, if_neg h, ih l (by omega)]
        rfl

/-! ### Digits -/
def valueOf (base : Int) (ds : List UInt8) (n : Int) : Int := ds.foldl (fun v c => v * base + digitOf c.toNat) n
theorem sat_step (v base d : Int) (hb : base = 10 ∨ base = 16) (hd : 0 ≤ d) (hv : 0 ≤ v) : min (min v 1114112 * base + d) 1114112 = min (v * base + d) 1114112 := by
  rcases hb with rfl | rfl <;> omega
theorem digits_value (base : Int) (hb : base = 10 ∨ base = 16) (rest : List UInt8) : ∀ (ds : List UInt8) (i n : Int), (∀ c ∈ ds, 0 ≤ digitOf c.toNat ∧ digitOf c.toNat < base) → 0 ≤ n →
    digitsOf (ds ++ rest) base i (min n 1114112) = digitsOf rest base (i + ds.length) (min (valueOf base ds n) 1114112) := by
  intro ds
  induction ds with
  | nil => intro i n _ _; simp [valueOf]
  | cons c ds ih =>
    intro i n h hn
    have hc := h c List.mem_cons_self
    have hnb : 0 ≤ n * base := Int.mul_nonneg hn (by omega)
    show digitsOf (c :: (ds ++ rest)) base i (min n 1114112) = _
    conv => lhs; unfold digitsOf
    simp only
    rw [if_neg (by omega), sat_step n base _ hb hc.1 hn, ih (i + 1) (n * base + digitOf c.toNat) (fun y hy => h y (List.mem_cons_of_mem _ hy)) (by omega)]
    rw [List.length_cons]
    congr 1
    omega
/-- The sign of one digit. -/
def sign (d : Nat) : UInt8 := if d < 10 then UInt8.ofNat (48 + d) else UInt8.ofNat (87 + d)
theorem sign_digit (d : Nat) (h : d < 16) : digitOf (sign d).toNat = d := by
  have : d = 0 ∨ d = 1 ∨ d = 2 ∨ d = 3 ∨ d = 4 ∨ d = 5 ∨ d = 6 ∨ d = 7 ∨ d = 8 ∨ d = 9 ∨ d = 10 ∨ d = 11 ∨ d = 12 ∨ d = 13 ∨ d = 14 ∨ d = 15 := by omega
  rcases this with h | h | h | h | h | h | h | h | h | h | h | h | h | h | h | h <;> (subst h; decide)
def hexD : ByteArray := ⟨#[48, 49, 50, 51, 52, 53, 54, 55, 56, 57, 97, 98, 99, 100, 101, 102]⟩
theorem hex_cut (d : Nat) (h : d < 16) : (hexD.extract d (d + 1)).data.toList = [sign d] := by
  have : d = 0 ∨ d = 1 ∨ d = 2 ∨ d = 3 ∨ d = 4 ∨ d = 5 ∨ d = 6 ∨ d = 7 ∨ d = 8 ∨ d = 9 ∨ d = 10 ∨ d = 11 ∨ d = 12 ∨ d = 13 ∨ d = 14 ∨ d = 15 := by omega
  rw [ext_list]
  rcases this with h | h | h | h | h | h | h | h | h | h | h | h | h | h | h | h <;> (subst h; decide)

end Go.Proofs.Ytebcdfdkgjcmmaa.Laws4
