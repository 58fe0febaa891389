/- What is written is no shorter, but for what is two bytes; texts of letters stay: the law portierelaw05.EscapeLong, for every input. -/
import Derived.Test.YtebcdfdkgjcmmaaPx4
import Derived.Test.YtebcdfdkgjcmmaaRefEsc
namespace Go.Proofs.Ytebcdfdkgjcmmaa.Pure
set_option linter.unusedVariables false
set_option linter.unusedSimpArgs false
open Go Go.RowKit Go.Proofs.Ytebcdfdkgjcmmaa.P Go.Proofs.Ytebcdfdkgjcmmaa.Hand Go.Proofs.Ytebcdfdkgjcmmaa.EscLaws Go.Proofs.Ytebcdfdkgjcmmaa.RefEsc Go.Proofs.YtebcdfdkgjcmmaaW.PrintWords Go.Proofs.YtebcdfdkgjcmmaaW.PrintLast

theorem letter_range (s : ByteArray) (i : Nat) (hi : i < s.size) : 97 ≤ (97 + Int.tmod (bt s i) 26) % 256 ∧ (97 + Int.tmod (bt s i) 26) % 256 ≤ 122 := by
  rw [bt_list, Int.toNat_natCast]
  have h := (s.data.toList.getD i 0).toNat_lt
  rw [Int.tmod_eq_emod_of_nonneg (by omega)]
  omega
theorem one_letter (n : Int) (h0 : 97 ≤ n) (h1 : n ≤ 122) : (strOfNums [n]).size = 1 ∧ ∀ c ∈ (strOfNums [n]).data.toList, 97 ≤ c.toNat ∧ c.toNat ≤ 122 := by
  refine ⟨rfl, fun c hc => ?_⟩
  rw [strOfNums_data] at hc
  simp only [List.map_cons, List.map_nil, List.mem_singleton] at hc
  rw [hc]
  have : (UInt8.ofNat n.toNat).toNat = n.toNat := by
    simp only [UInt8.toNat_ofNat']
    omega
  rw [this]
  omega
theorem letters_stay (q : Bool) (t : ByteArray) (h : ∀ c ∈ t.data.toList, 97 ≤ c.toNat ∧ c.toNat ≤ 122) : escB q t = t := by
  apply bytes_ext
  rw [escB_list]
  exact esc_letters q _ h
theorem long_loop (s : ByteArray) (hs : s.size ≤ 1000) : ∀ (d i : Nat) (t : ByteArray) (k : Nat), i + d = s.size → t.size ≤ i → (∀ c ∈ t.data.toList, 97 ≤ c.toNat ∧ c.toNat ≤ 122) → d + 1 ≤ k → portierelaw05_EscapeLong.l0 k s t i = some true := by
  intro d
  induction d with
  | zero =>
    intro i t k hi ht hl hk
    obtain ⟨k, rfl⟩ : ∃ m, k = m + 1 := ⟨k - 1, by omega⟩
    have e1 : s.size ≤ (escB false s).size := by rw [escB_size, size_list]; exact (esc_len false s.data.toList).1
    have e2 : (escB false s).size ≤ (escB true s).size := by rw [escB_size, escB_size]; exact esc_more s.data.toList
    simp only [portierelaw05_EscapeLong.l0]
    rw [if_neg (by omega), text_of s (by omega), Option.bind_some, if_pos (by omega), value_of s (by omega), Option.bind_some, Option.bind_some, if_pos (by omega), text_of t (by omega), Option.bind_some, letters_stay false t hl, if_pos rfl,
      value_of t (by omega), Option.bind_some, letters_stay true t hl, beq_self_eq_true]
  | succ d ih =>
    intro i t k hi ht hl hk
    obtain ⟨k, rfl⟩ : ∃ m, k = m + 1 := ⟨k - 1, by omega⟩
    have W : Aside0 (wrap64 ((i : Int) + 1) = ((i + 1 : Nat) : Int)) := ⟨by rw [wrap64_id] <;> omega⟩
    obtain ⟨r0, r1⟩ := letter_range s i (by omega)
    obtain ⟨o0, o1⟩ := one_letter _ r0 r1
    simp only [portierelaw05_EscapeLong.l0]
    rw [if_pos (by omega), if_pos (by omega), Option.bind_some, if_pos (by omega), W.out]
    refine ih (i + 1) _ k (by omega) (by rw [ByteArray.size_append]; omega) (fun c hc => ?_) (by omega)
    rw [app_list, List.mem_append] at hc
    rcases hc with hc | hc
    · exact hl c hc
    · exact o1 c hc
theorem long_end (k : Nat) (s : ByteArray) (hs : s.size ≤ 1000) (hk : s.size + 1 ≤ k) : portierelaw05_EscapeLong.j0 (k + 1) s false = some true := by
  have h := long_loop s hs s.size 0 ⟨#[]⟩ k (by omega) (by decide) (by simp) (by omega)
  simp only [portierelaw05_EscapeLong.j0]
  rw [if_neg Bool.false_ne_true]
  exact h
theorem long_known (k : Nat) (s : ByteArray) : portierelaw05_EscapeLong.j0 (k + 1) s true = some true := by
  simp only [portierelaw05_EscapeLong.j0]
  rw [if_pos trivial, known_true, Option.bind_some]
theorem EscapeLong : portierelaw05_EscapeLong.Pure := by
  intro a0 hw
  clear hw
  refine ⟨a0.size + 1 + 1, ?_⟩
  unfold portierelaw05_EscapeLong.f
  by_cases hs : (a0.size : Int) > 1000
  · rw [if_pos hs]
    exact long_known _ a0
  · rw [if_neg hs, known_true, Option.bind_some]
    exact long_end _ a0 (by omega) (Nat.le_refl _)

end Go.Proofs.Ytebcdfdkgjcmmaa.Pure
