/- The statement's own digits: what they are, and what reading them gives. -/
import Derived.Test.YtijjfkjihifjpaaPx14
import Derived.Test.YtijjfkjihifjpaaLaws4
namespace Go.Proofs.Ytijjfkjihifjpaa.Laws4
set_option linter.unusedVariables false
set_option linter.unusedSimpArgs false
open Go Go.RowKit Go.Proofs.Ytijjfkjihifjpaa.P Go.Proofs.Ytijjfkjihifjpaa.Hand Go.Proofs.YtijjfkjihifjpaaW.PrintWords Go.Proofs.YtijjfkjihifjpaaW.PrintLast Go.Proofs.YtijjfkjihifjpaaW.PrintMore

/-- Digits of a base, with their value. -/
def Digs (base n : Int) (ds : List UInt8) : Prop := ds ≠ [] ∧ (∀ c ∈ ds, 0 ≤ digitOf c.toNat ∧ digitOf c.toNat < base ∧ c ≠ 120 ∧ c ≠ 88 ∧ c ≠ 59) ∧ ∀ v, valueOf base ds v = v * base ^ ds.length + n
theorem sign_kind (d : Nat) (h : d < 16) : sign d ≠ 120 ∧ sign d ≠ 88 ∧ sign d ≠ 59 := by
  have : d = 0 ∨ d = 1 ∨ d = 2 ∨ d = 3 ∨ d = 4 ∨ d = 5 ∨ d = 6 ∨ d = 7 ∨ d = 8 ∨ d = 9 ∨ d = 10 ∨ d = 11 ∨ d = 12 ∨ d = 13 ∨ d = 14 ∨ d = 15 := by omega
  rcases this with h | h | h | h | h | h | h | h | h | h | h | h | h | h | h | h <;> (subst h; decide)
theorem hex_piece (m : Int) (h0 : 0 ≤ m) (h1 : m < 16) : (hexD.extract m.toNat ((m + 1) % 4294967296).toNat).data.toList = [sign m.toNat] ∧ ((m + 1) % 4294967296).toNat - m.toNat = 1 := by
  have e : ((m + 1) % 4294967296).toNat = m.toNat + 1 := by omega
  rw [e]
  exact ⟨hex_cut m.toNat (by omega), by omega⟩
theorem digs_of (base : Int) (hb : base = 10 ∨ base = 16) : ∀ (k : Nat) (n : Int), k ≤ 100 → 0 ≤ n → n < 4294967296 → n < 2 ^ k → ∃ t, portierelaw04_digits.f (k + 1) n base = some t ∧ Digs base n t.data.toList ∧ t.size ≤ k + 1 := by
  intro k
  induction k with
  | zero =>
    intro n hk100 h0 h1 h2
    have hn : n < 1 := by simpa using h2
    have e : n = 0 := by omega
    subst e
    obtain ⟨e1, e2⟩ := hex_piece 0 (by omega) (by omega)
    refine ⟨hexD.extract (0 : Int).toNat ((0 + 1 : Int) % 4294967296).toNat, ?_, ?_, ?_⟩
    · simp only [portierelaw04_digits.f]
      rw [if_pos (by omega), if_pos (by omega), if_pos (by omega), if_pos (by omega)]
      rfl
    · rw [e1]
      refine ⟨by simp, ?_, ?_⟩
      · intro c hc
        simp only [List.mem_singleton] at hc
        subst hc
        rw [show (0 : Int).toNat = 0 from rfl, sign_digit 0 (by omega)]
        exact ⟨by omega, by omega, sign_kind 0 (by omega)⟩
      · intro v
        show v * base + digitOf (sign (0 : Int).toNat).toNat = v * base ^ 1 + 0
        rw [show (0 : Int).toNat = 0 from rfl, sign_digit 0 (by omega), Int.pow_succ, Int.pow_zero, Int.one_mul]
        rfl
    · rw [size_list, e1]; simp
  | succ k ih =>
    intro n hk100 h0 h1 h2
    by_cases hlt : n < base
    · obtain ⟨e1, e2⟩ := hex_piece n h0 (by omega)
      refine ⟨hexD.extract n.toNat ((n + 1) % 4294967296).toNat, ?_, ?_, ?_⟩
      · simp only [portierelaw04_digits.f]
        rw [if_pos hlt, if_pos h0, if_pos (by omega), if_pos (by omega)]
        rfl
      · rw [e1]
        refine ⟨by simp, ?_, ?_⟩
        · intro c hc
          simp only [List.mem_singleton] at hc
          subst hc
          rw [sign_digit n.toNat (by omega)]
          exact ⟨by omega, by omega, sign_kind n.toNat (by omega)⟩
        · intro v
          show v * base + digitOf (sign n.toNat).toNat = v * base ^ 1 + n
          rw [sign_digit n.toNat (by omega), Int.pow_succ, Int.pow_zero, Int.one_mul]
          omega
      · rw [size_list, e1]; simp
    · have hq0 : 0 ≤ n / base := Int.ediv_nonneg h0 (by omega)
      have hqm : n / base * base + n % base = n := by rw [Int.mul_comm]; exact Int.mul_ediv_add_emod n base
      have hm0 : 0 ≤ n % base := Int.emod_nonneg n (by omega)
      have hm1 : n % base < base := Int.emod_lt_of_pos n (by omega)
      have hq2 : n / base * 2 ≤ n := by
        have : n / base * 2 ≤ n / base * base := Int.mul_le_mul_of_nonneg_left (by omega) hq0
        omega
      have hqk : n / base < 2 ^ k := by rw [Int.pow_succ] at h2; omega
      obtain ⟨t, ht, ⟨hne, hds, hval⟩, hsz⟩ := ih (n / base) (by omega) hq0 (by omega) hqk
      have hdiv : (Int.tdiv n base) % 4294967296 = n / base := by
        rw [Int.tdiv_eq_ediv_of_nonneg h0]
        exact Int.emod_eq_of_lt hq0 (by omega)
      have hmod : Int.tmod n base = n % base := Int.tmod_eq_emod_of_nonneg h0
      generalize hmm : n % base = m at *
      generalize hqq : n / base = q at *
      obtain ⟨e1, e2⟩ := hex_piece m hm0 (by omega)
      have hcut : (hexD.extract m.toNat ((m + 1) % 4294967296).toNat).size = 1 := by rw [size_list, e1]; rfl
      refine ⟨t ++ hexD.extract m.toNat ((m + 1) % 4294967296).toNat, ?_, ?_, ?_⟩
      · have e := ht
        generalize hk : k + 1 = k1 at *
        simp only [portierelaw04_digits.f]
        rw [if_neg hlt, if_neg (by omega), hdiv, hmod, e, Option.bind_some, if_pos hm0, if_pos (by omega), if_pos (by omega), if_pos (by omega)]
        rfl
      · rw [app_list, e1]
        refine ⟨by simp, ?_, ?_⟩
        · intro c hc
          rw [List.mem_append, List.mem_singleton] at hc
          rcases hc with hc | hc
          · exact hds c hc
          · subst hc
            rw [sign_digit m.toNat (by omega)]
            exact ⟨by omega, by omega, sign_kind m.toNat (by omega)⟩
        · intro v
          have h1 : valueOf base (t.data.toList ++ [sign m.toNat]) v = valueOf base t.data.toList v * base + digitOf (sign m.toNat).toNat := by
            unfold valueOf; rw [List.foldl_append]; rfl
          rw [h1, hval, sign_digit m.toNat (by omega), List.length_append, List.length_singleton, Int.pow_succ, Int.add_mul, Int.mul_assoc]
          omega
      · rw [ByteArray.size_append, hcut]; omega
/-- Reading digits of which the first may be more, and a semicolon behind. -/
theorem read_digits (base : Int) (hb : base = 10 ∨ base = 16) (ds rest : List UInt8) (h : ∀ c ∈ ds, 0 ≤ digitOf c.toNat ∧ digitOf c.toNat < base) :
    digitsOf (ds ++ 59 :: rest) base 0 0 = ((ds.length : Int), min (valueOf base ds 0) 1114112) := by
  have h1 := digits_value base hb (59 :: rest) ds 0 0 h (by omega)
  rw [show min (0 : Int) 1114112 = 0 by decide] at h1
  rw [h1]
  have : digitOf ((59 : UInt8).toNat : Int) = -1 := by decide
  unfold digitsOf
  simp only
  rw [this, if_pos (.inl (by decide)), Int.zero_add]
theorem numRef_dec (ds rest : List UInt8) (hne : ds ≠ []) (h : ∀ c ∈ ds, 0 ≤ digitOf c.toNat ∧ digitOf c.toNat < 10 ∧ c ≠ 120 ∧ c ≠ 88) :
    numRef (ds ++ 59 :: rest) = ((pointOf (min (valueOf 10 ds 0) 1114112)).1, (ds.length : Int) + 3, (pointOf (min (valueOf 10 ds 0) 1114112)).2) := by
  cases hds : ds with
  | nil => exact absurd hds hne
  | cons c l =>
    rw [← hds]
    have hc := h c (by rw [hds]; exact List.mem_cons_self)
    have hx : ((ds ++ 59 :: rest).head? == some 120 || (ds ++ 59 :: rest).head? == some 88) = false := by
      rw [hds]; simp [hc.2.2.1, hc.2.2.2]
    have hl : ds.length ≠ 0 := by rw [hds]; simp
    unfold numRef
    rw [hx]
    simp only [Bool.false_eq_true, if_false]
    rw [read_digits 10 (.inl rfl) ds rest (fun c hc => ⟨(h c hc).1, (h c hc).2.1⟩)]
    simp only
    rw [if_neg (by omega), Int.toNat_natCast, List.drop_append_of_le_length (Nat.le_refl _), List.drop_of_length_le (Nat.le_refl _)]
    simp
    omega
theorem numRef_hex (ds rest : List UInt8) (hne : ds ≠ []) (h : ∀ c ∈ ds, 0 ≤ digitOf c.toNat ∧ digitOf c.toNat < 16) :
    numRef (120 :: (ds ++ 59 :: rest)) = ((pointOf (min (valueOf 16 ds 0) 1114112)).1, (ds.length : Int) + 4, (pointOf (min (valueOf 16 ds 0) 1114112)).2) := by
  have hl : ds.length ≠ 0 := fun e => hne (List.eq_nil_of_length_eq_zero e)
  unfold numRef
  have hx : ((120 :: (ds ++ 59 :: rest)).head? == some 120 || (120 :: (ds ++ 59 :: rest)).head? == some 88) = true := rfl
  rw [hx]
  simp only [if_true, List.tail_cons]
  rw [read_digits 16 (.inr rfl) ds rest h]
  simp only
  rw [if_neg (by omega), Int.toNat_natCast, List.drop_append_of_le_length (Nat.le_refl _), List.drop_of_length_le (Nat.le_refl _)]
  simp
  omega
theorem take_num (s : ByteArray) (t : List UInt8) (attr : Bool) (h : s.data.toList = 38 :: 35 :: t) (hs : s.size ≤ 140737488351232) : charref_Take.f s 0 attr = some (numRef t) := by
  unfold charref_Take.f
  rw [if_pos hs]
  unfold takeOf
  have : s.size = t.length + 2 := by rw [size_list, h]; simp
  rw [if_neg (by omega), h]
  rfl

end Go.Proofs.Ytijjfkjihifjpaa.Laws4
