/- The document's answer for references (portiereref04) is what HandCharref says, on lists of bytes. -/
import Derived.Test.YtebcdfdkgjcmmaaPx9
import Derived.Test.YtebcdfdkgjcmmaaHandBytes
import Derived.Test.YtebcdfdkgjcmmaaHandCharref
namespace Go.Proofs.Ytebcdfdkgjcmmaa.RefCharref
set_option linter.unusedVariables false
set_option linter.unusedSimpArgs false
open Go Go.RowKit Go.Proofs.Ytebcdfdkgjcmmaa.P Go.Proofs.Ytebcdfdkgjcmmaa.Hand Go.Proofs.YtebcdfdkgjcmmaaW.PrintWords Go.Proofs.YtebcdfdkgjcmmaaW.PrintLast Go.Proofs.YtebcdfdkgjcmmaaW.PrintMore

def digB (c base : Int) : Int := if 48 ≤ c ∧ c ≤ 57 then c - 48 else if base = 16 then digitOf c else -1
theorem digB_eq (c base : Int) (h0 : 0 ≤ c) (h1 : c ≤ 255) (hb : base = 10 ∨ base = 16) : (digB c base < 0 ↔ (digitOf c < 0 ∨ base ≤ digitOf c)) ∧ (0 ≤ digB c base → digB c base = digitOf c) := by
  unfold digB digitOf
  rcases hb with rfl | rfl <;> (repeat' split) <;> omega
theorem digit_of (c base : Int) (h0 : 0 ≤ c) (h1 : c ≤ 255) (k : Nat) (hk : 2 ≤ k) : portiereref04_digit.f k c base = some (digB c base) := by
  obtain ⟨k, rfl⟩ : ∃ m, k = m + 2 := ⟨k - 2, by omega⟩
  unfold portiereref04_digit.f digB digitOf
  simp only [portiereref04_digit.j0, portiereref04_digit.j1]
  repeat' split
  all_goals first | rfl | (simp_all; done) | (simp_all; omega) | (exfalso; simp_all; omega)
theorem bt_drop {s : ByteArray} {i : Nat} {c : UInt8} {l : List UInt8} (h : s.data.toList.drop i = c :: l) : bt s i = (c.toNat : Int) ∧ i < s.size ∧ s.data.toList.drop (i + 1) = l := by
  have hi : i < s.data.toList.length := by
    rcases Nat.lt_or_ge i s.data.toList.length with h1 | h1
    · exact h1
    · rw [List.drop_of_length_le h1] at h; cases h
  rw [List.drop_eq_getElem_cons hi] at h
  injection h with h1 h2
  refine ⟨?_, by rw [size_list]; exact hi, h2⟩
  rw [bt_list, Int.toNat_natCast, List.getD_eq_getElem?_getD, List.getElem?_eq_getElem hi, Option.getD_some, h1]
theorem drop_nil {s : ByteArray} {i : Nat} (h : s.data.toList.drop i = []) : s.size ≤ i := by
  rw [size_list]
  exact List.drop_eq_nil_iff.1 h
theorem byte_range (c : UInt8) : 0 ≤ (c.toNat : Int) ∧ (c.toNat : Int) ≤ 255 := by have := c.toNat_lt; omega

theorem step_num (n base d : Int) (hb : base = 10 ∨ base = 16) (h0 : 0 ≤ n) (h1 : n ≤ 1114112) (hd0 : 0 ≤ d) (hd1 : d ≤ 15) :
    mn (wrap64 ((wrap64 (n * base)) + d)) 1114112 = min (n * base + d) 1114112 ∧ 0 ≤ min (n * base + d) 1114112 ∧ min (n * base + d) 1114112 ≤ 1114112 := by
  have e : 0 ≤ n * base ∧ n * base ≤ 17825792 := by rcases hb with rfl | rfl <;> omega
  obtain ⟨e0, e1⟩ := e
  generalize n * base = x at *
  clear hb h0 h1
  rw [wrap64_id (x := x) (by omega) (by omega), wrap64_id (by omega) (by omega)]
  unfold mn
  refine ⟨?_, ?_, ?_⟩
  · split <;> omega
  · omega
  · omega
theorem ref_digits (s : ByteArray) (at_ base fr : Int) (hb : base = 10 ∨ base = 16) (hs : s.size ≤ 140737488351232) : ∀ (l : List UInt8) (i : Nat) (n : Int) (k : Nat), s.data.toList.drop i = l → i ≤ s.size → 0 ≤ n → n ≤ 1114112 → l.length + 3 ≤ k →
    ∃ k', k ≤ k' + l.length + 1 ∧ portiereref04_numeric.l0 k s at_ i base fr n = portiereref04_numeric.j3 k' s at_ (digitsOf l base i n).1 fr (digitsOf l base i n).2 := by
  intro l
  induction l with
  | nil =>
    intro i n k hd hi h0 h1 hk
    obtain ⟨k, rfl⟩ : ∃ m, k = m + 1 := ⟨k - 1, by omega⟩
    refine ⟨k, by simp, ?_⟩
    simp only [portiereref04_numeric.l0]
    rw [if_neg (by have := drop_nil hd; omega)]
    rfl
  | cons c l ih =>
    intro i n k hd hi h0 h1 hk
    obtain ⟨k, rfl⟩ : ∃ m, k = m + 1 := ⟨k - 1, by omega⟩
    obtain ⟨hbt, hlt, hd'⟩ := bt_drop hd
    have hc := byte_range c
    simp only [portiereref04_numeric.l0]
    have hk2 : 2 ≤ k := by simp at hk; omega
    rw [if_pos (by omega), if_pos (by omega), hbt, digit_of _ _ hc.1 hc.2 k hk2]
    simp only [Option.bind_some]
    have hq := digB_eq c.toNat base hc.1 hc.2 hb
    by_cases hdig : digB c.toNat base ≥ 0
    · rw [if_pos hdig]
      have hno : ¬ (digitOf c.toNat < 0 ∨ base ≤ digitOf c.toNat) := fun h => by have := hq.1.2 h; omega
      have hdv := hq.2 hdig
      have e : digitsOf (c :: l) base i n = digitsOf l base ((i : Int) + 1) (min (n * base + digitOf c.toNat) 1114112) := by
        conv => lhs; unfold digitsOf
        simp only
        rw [if_neg hno]
      rw [e, hdv]
      have hd0 : 0 ≤ digitOf c.toNat := by omega
      have hd1 : digitOf c.toNat ≤ 15 := by unfold digitOf; (repeat' split) <;> omega
      have hi2 : ((i + 1 : Nat) : Int) = (i : Int) + 1 := by omega
      have g1 : i + 1 ≤ s.size := by omega
      have g2 : l.length + 3 ≤ k := by simp at hk; omega
      have hi1 : wrap64 ((i : Int) + 1) = (i : Int) + 1 := by rw [wrap64_id] <;> omega
      obtain ⟨hm, g3, g4⟩ := step_num n base (digitOf c.toNat) hb h0 h1 hd0 hd1
      rw [hm, hi1]
      obtain ⟨k', hk', hv⟩ := ih (i + 1) (min (n * base + digitOf c.toNat) 1114112) k hd' g1 g3 g4 g2
      rw [hi2] at hv
      refine ⟨k', ?_, hv⟩
      clear hm g3 g4 hv hi1 hi2 e hbt hq
      simp only [List.length_cons]
      omega
    · rw [if_neg hdig]
      have hyes : digitOf c.toNat < 0 ∨ base ≤ digitOf c.toNat := hq.1.1 (by omega)
      have e : digitsOf (c :: l) base i n = ((i : Int), n) := by
        unfold digitsOf
        simp only
        rw [if_pos hyes]
      refine ⟨k, by simp only [List.length_cons]; omega, ?_⟩
      rw [e]
theorem digitsOf_shift (l : List UInt8) (base c : Int) : ∀ (i n : Int), digitsOf l base (i + c) n = ((digitsOf l base i n).1 + c, (digitsOf l base i n).2) := by
  induction l with
  | nil => intro i n; rfl
  | cons a l ih =>
    intro i n
    unfold digitsOf
    simp only
    split
    · rfl
    · rw [show i + c + 1 = (i + 1) + c by omega, ih]
/-- What stands behind the digits: the semicolon, the code point. -/
theorem ref_tail (s : ByteArray) (at_ i fr n : Int) (k : Nat) (h0 : 0 ≤ at_) (h1 : at_ ≤ i) (h2 : i ≤ s.size) (hs : s.size ≤ 140737488351232) (hn0 : 0 ≤ n) (hn1 : n ≤ 1114112) (hne : i ≠ fr) :
    portiereref04_numeric.j3 (k + 4) s at_ i fr n = some ((pointOf n).1, i - at_ + (if ((s.data.toList.drop i.toNat).head? == some 59) = true then 1 else 0),
      if ((s.data.toList.drop i.toNat).head? == some 59) = true then (pointOf n).2 else if (pointOf n).2 = 0 then 1 else (pointOf n).2) := by
  have key : ∀ (k : Nat) (j f : Int), at_ ≤ j → j ≤ s.size → (f = 0 ∨ f = 1) → portiereref04_numeric.j5 (k + 2) at_ j n f = some ((pointOf n).1, j - at_, if (pointOf n).2 = 0 then f else (pointOf n).2) := by
    intro k j f hj1 hj2 hf
    have hw : wrap64 (j - at_) = j - at_ := by rw [wrap64_id] <;> omega
    have bad : n = 0 ∨ 1114111 < n ∨ (55296 ≤ n ∧ n ≤ 57343) → pointOf n = (⟨#[239, 191, 189]⟩, 2) := by
      intro h
      unfold pointOf
      rw [if_pos (by omega)]
    simp only [portiereref04_numeric.j5, portiereref04_numeric.j6]
    by_cases hb : n = 0 ∨ 1114111 < n ∨ (55296 ≤ n ∧ n ≤ 57343)
    · have hp := bad hb
      rw [hp]
      simp only
      by_cases c1 : n = 0
      · rw [if_pos c1, if_pos trivial, hw]; rfl
      · rw [if_neg c1]
        by_cases c2 : n > 1114111
        · rw [if_pos c2, if_pos trivial, hw]; rfl
        · rw [if_neg c2, if_pos (by omega), if_pos (by simp; omega), hw]; rfl
    · have c1 : ¬ n = 0 := by omega
      have c2 : ¬ n > 1114111 := by omega
      have hp : pointOf n = if 128 ≤ n ∧ n ≤ 159 then (Utf8.encode (toldTab.getD (n - 128).toNat 0), 2) else (Utf8.encode n, 0) := by
        unfold pointOf
        rw [if_neg (by omega)]
      have plain : ∀ x : Int, runesBytes [x] = Utf8.encode x := by
        intro x
        unfold runesBytes
        simp only [List.foldl_cons, List.foldl_nil]
        exact bytes_ext (by rw [app_list]; rfl)
      have w32 : wrap32 n = n := by unfold wrap32; omega
      have rest : (if n ≥ 128 then
            if n ≤ 159 then
              (some (toldTab : List Int)).bind fun y127 =>
                if 0 ≤ wrap64 (n - 128) then
                  if wrap64 (n - 128) ≤ wrap64 (n - 127) then
                    if wrap64 (n - 127) ≤ (y127.length : Int) then
                      some (runesBytes ((y127.take ((wrap64 (n - 127)) : Int).toNat).drop ((wrap64 (n - 128)) : Int).toNat), wrap64 (j - at_), (2 : Int))
                    else none
                  else none
                else none
            else some (runesBytes [wrap32 n], wrap64 (j - at_), f)
          else some (runesBytes [wrap32 n], wrap64 (j - at_), f)) = some ((pointOf n).1, j - at_, if (pointOf n).2 = 0 then f else (pointOf n).2) := by
        rw [hp, hw, w32, plain]
        by_cases d1 : n ≥ 128
        · rw [if_pos d1]
          by_cases d2 : n ≤ 159
          · have e1 : wrap64 (n - 128) = n - 128 := by rw [wrap64_id] <;> omega
            have e2 : wrap64 (n - 127) = n - 127 := by rw [wrap64_id] <;> omega
            rw [if_pos d2, if_pos (show 128 ≤ n ∧ n ≤ 159 by omega)]
            simp only [Option.bind_some]
            have hl : toldTab.length = 32 := rfl
            rw [e1, e2, if_pos (by omega), if_pos (by omega), if_pos (by omega)]
            have hcut : (toldTab.take (n - 127).toNat).drop (n - 128).toNat = [toldTab.getD (n - 128).toNat 0] := by
              have hk : (n - 128).toNat < toldTab.length := by omega
              have hk2 : (n - 127).toNat = (n - 128).toNat + 1 := by omega
              rw [hk2, List.take_succ_eq_append_getElem hk, List.drop_append_of_le_length (by rw [List.length_take]; omega), List.drop_of_length_le (by rw [List.length_take]; omega), List.nil_append, List.getD_eq_getElem?_getD, List.getElem?_eq_getElem hk, Option.getD_some]
            rw [hcut, plain]
            rfl
          · rw [if_neg d2, if_neg (by omega)]
            rfl
        · rw [if_neg d1, if_neg (by omega)]
          rfl
      rw [if_neg c1, if_neg c2]
      by_cases c3 : n ≥ 55296
      · have c4 : decide (n ≤ 57343) = false := by simp; omega
        rw [if_pos c3, c4, if_neg (by simp)]
        exact rest
      · rw [if_neg c3, if_neg (by simp)]
        exact rest
  simp only [portiereref04_numeric.j3, portiereref04_numeric.j4]
  rw [if_neg hne]
  have hb : i < (s.size : Int) → ((bt s i == 59) = ((s.data.toList.drop i.toNat).head? == some 59)) := by
    intro h
    have hi : i.toNat < s.data.toList.length := by rw [← size_list]; omega
    rw [bt_list, List.drop_eq_getElem_cons hi, List.getD_eq_getElem?_getD, List.getElem?_eq_getElem hi, Option.getD_some, List.head?_cons]
    rw [Bool.eq_iff_iff]
    simp only [beq_iff_eq, Option.some.injEq]
    constructor
    · intro h; exact UInt8.toNat_inj.1 (by have : (59 : UInt8).toNat = 59 := rfl; omega)
    · intro h; rw [h]; rfl
  by_cases hi : i < (s.size : Int)
  · rw [if_pos hi, if_pos (by omega), hb hi]
    have hw1 : wrap64 (i + 1) = i + 1 := by rw [wrap64_id] <;> omega
    generalize ((s.data.toList.drop i.toNat).head? == some 59) = b
    cases b
    · simp only [Bool.false_eq_true, if_false]
      rw [key k i 1 h1 h2 (.inr rfl), Int.add_zero]
    · simp only [if_true]
      rw [hw1, key k (i + 1) 0 (by omega) (by omega) (.inl rfl)]
      congr 2
      · congr 1
        · omega
        · split <;> simp_all
  · rw [if_neg hi]
    have : s.data.toList.drop i.toNat = [] := List.drop_of_length_le (by rw [← size_list]; omega)
    rw [this]
    simp only [Bool.false_eq_true, if_false, List.head?_nil]
    rw [key k i 1 h1 h2 (.inr rfl)]
    simp

theorem ref_j1 (s : ByteArray) (at_ i : Nat) (base : Int) (l : List UInt8) (k : Nat) (hb : base = 10 ∨ base = 16) (hs : s.size ≤ 140737488351232) (hd : s.data.toList.drop i = l) (hi : i ≤ s.size) (ha : at_ ≤ i) (hk : l.length + 12 ≤ k) :
    portiereref04_numeric.j1 k s at_ i base = some (if (digitsOf l base 0 0).1 = 0 then ((⟨#[]⟩ : ByteArray), (0 : Int), (0 : Int)) else
      ((pointOf (digitsOf l base 0 0).2).1, (i : Int) - at_ + (digitsOf l base 0 0).1 + (if ((l.drop (digitsOf l base 0 0).1.toNat).head? == some 59) = true then 1 else 0),
        if ((l.drop (digitsOf l base 0 0).1.toNat).head? == some 59) = true then (pointOf (digitsOf l base 0 0).2).2 else if (pointOf (digitsOf l base 0 0).2).2 = 0 then 1 else (pointOf (digitsOf l base 0 0).2).2)) := by
  obtain ⟨k, rfl⟩ : ∃ m, k = m + 1 := ⟨k - 1, by omega⟩
  simp only [portiereref04_numeric.j1]
  obtain ⟨k', hk', hv⟩ := ref_digits s at_ base i hb hs l i 0 k hd hi (by omega) (by omega) (by omega)
  rw [hv]
  clear hv
  have hsh := digitsOf_shift l base i 0 0
  rw [Int.zero_add] at hsh
  rw [hsh]
  have hbd := digitsOf_bound l base 0 0
  have hnm := digitsOf_num l base 0 0 (by omega) (by omega) (by omega)
  have hll : l.length + i = s.size := by rw [← hd, List.length_drop, ← size_list]; omega
  generalize digitsOf l base 0 0 = kn at *
  obtain ⟨kk, n⟩ := kn
  simp only at hbd hnm ⊢
  by_cases h0 : kk = 0
  · rw [if_pos h0]
    obtain ⟨k2, rfl⟩ : ∃ m, k' = m + 1 := ⟨k' - 1, by omega⟩
    simp only [portiereref04_numeric.j3]
    rw [if_pos (by omega)]
  · rw [if_neg h0]
    obtain ⟨k2, rfl⟩ : ∃ m, k' = m + 4 := ⟨k' - 4, by omega⟩
    rw [ref_tail s at_ (kk + i) i n k2 (by omega) (by omega) (by omega) hs hnm.1 hnm.2 (by omega)]
    have hdr : s.data.toList.drop (kk + i).toNat = l.drop kk.toNat := by
      rw [← hd, List.drop_drop]
      congr 1
      omega
    rw [hdr, show kk + (i : Int) - at_ = (i : Int) - at_ + kk by omega]
theorem ref_numeric (s : ByteArray) (at_ : Nat) (t : List UInt8) (h : s.data.toList.drop at_ = 38 :: 35 :: t) (hs : s.size ≤ 140737488351232) (k : Nat) (hk : t.length + 16 ≤ k) :
    portiereref04_numeric.f k s at_ = some (numRef t) := by
  have hl : t.length + 2 + at_ = s.size := by
    have := congrArg List.length h
    rw [List.length_drop, ← size_list] at this
    simp at this
    omega
  have hd2 : s.data.toList.drop (at_ + 2) = t := by rw [← List.drop_drop, h]; rfl
  have w2 : wrap64 ((at_ : Int) + 2) = ((at_ + 2 : Nat) : Int) := by rw [wrap64_id] <;> omega
  have w3 : wrap64 (((at_ + 2 : Nat) : Int) + 1) = ((at_ + 3 : Nat) : Int) := by rw [wrap64_id] <;> omega
  obtain ⟨k, rfl⟩ : ∃ m, k = m + 1 := ⟨k - 1, by omega⟩
  have dec : portiereref04_numeric.j0 (k + 1) s at_ ((at_ + 2 : Nat) : Int) 10 false = portiereref04_numeric.j1 k s at_ ((at_ + 2 : Nat) : Int) 10 := by
    simp only [portiereref04_numeric.j0]
    rw [if_neg (by simp)]
  have hex : portiereref04_numeric.j0 (k + 1) s at_ ((at_ + 2 : Nat) : Int) 10 true = portiereref04_numeric.j1 k s at_ ((at_ + 3 : Nat) : Int) 16 := by
    simp only [portiereref04_numeric.j0]
    rw [if_pos trivial, w3]
  unfold portiereref04_numeric.f
  rw [w2]
  clear w2 w3
  have j10 := ref_j1 s at_ (at_ + 2) 10 t k (.inl rfl) hs hd2 (by omega) (by omega) (by omega)
  unfold numRef
  cases t with
  | nil =>
    rw [if_neg (by simp at hl; omega), dec, j10]
    rfl
  | cons c t =>
    obtain ⟨hbt, hlt, hd3⟩ := bt_drop hd2
    have j16 := ref_j1 s at_ (at_ + 3) 16 t k (.inr rfl) hs hd3 (by omega) (by omega) (by simp at hk; omega)
    rw [if_pos (by omega), if_pos (by omega), hbt]
    have e120 : ((c.toNat : Int) = 120) ↔ c = 120 := by
      constructor
      · intro h; exact UInt8.toNat_inj.1 (by have : (120 : UInt8).toNat = 120 := rfl; omega)
      · intro h; rw [h]; rfl
    have e88 : ((c.toNat : Int) == 88) = (c == 88) := by
      rw [Bool.eq_iff_iff, beq_iff_eq, beq_iff_eq]
      constructor
      · intro h; exact UInt8.toNat_inj.1 (by have : (88 : UInt8).toNat = 88 := rfl; omega)
      · intro h; rw [h]; rfl
    have x2 : (((at_ + 2 : Nat) : Int) - at_) = 2 + 0 := by omega
    have x3 : (((at_ + 3 : Nat) : Int) - at_) = 2 + 1 := by omega
    by_cases c1 : c = 120
    · rw [if_pos (e120.2 c1), hex, j16, x3]
      subst c1
      rfl
    · rw [if_neg (fun h => c1 (e120.1 h)), e88]
      by_cases c2 : c = 88
      · rw [show (c == 88) = true from beq_iff_eq.2 c2, hex, j16, x3]
        subst c2
        rfl
      · rw [show (c == 88) = false from beq_eq_false_iff_ne.2 c2, dec, j10, x2]
        have : ((c :: t).head? == some 120 || (c :: t).head? == some 88) = false := by simp [c1, c2]
        rw [this]
        rfl

/-! ### Names -/
theorem ref_starts (s : ByteArray) (i : Nat) (x : ByteArray) (hi : i ≤ s.size) (hs : s.size ≤ 140737488351232) (hx : x.size ≤ 100) :
    portiereref04_starts.f s i x = some (x.data.toList.isPrefixOf (s.data.toList.drop i)) := by
  unfold portiereref04_starts.f
  have w1 : wrap64 ((s.size : Int) - i) = (s.size : Int) - i := by rw [wrap64_id] <;> omega
  have w2 : wrap64 ((i : Int) + (x.size : Int)) = ((i + x.size : Nat) : Int) := by rw [wrap64_id] <;> omega
  rw [w1, w2]
  clear w1 w2
  by_cases h : (s.size : Int) - i ≥ (x.size : Int)
  · rw [if_pos h, if_pos (by omega), if_pos (by omega), if_pos (by omega), toList_data, toList_data, ext_list, Int.toNat_natCast, Int.toNat_natCast, Nat.add_sub_cancel_left]
    rw [size_list x, prefix_take]
    rw [List.length_drop, ← size_list, ← size_list]
    omega
  · rw [if_neg h, prefix_long]
    rw [List.length_drop, ← size_list, ← size_list]
    omega

end Go.Proofs.Ytebcdfdkgjcmmaa.RefCharref
