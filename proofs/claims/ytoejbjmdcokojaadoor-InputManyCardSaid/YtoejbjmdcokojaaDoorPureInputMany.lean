/- There are no more characters than bytes; all that is told is right, and stays when it is read again: the law portierelaw01.InputMany, for every input. -/
import Derived.Test.YtoejbjmdcokojaaDoorQx4
import Derived.Test.YtoejbjmdcokojaaDoorInQ
namespace Go.Proofs.YtoejbjmdcokojaaDoor.Pure
set_option linter.unusedVariables false
set_option linter.unusedSimpArgs false
open Go Go.RowKit Go.Proofs.YtoejbjmdcokojaaDoor.Q Go.Proofs.YtoejbjmdcokojaaDoor.Hand Go.Proofs.YtoejbjmdcokojaaDoor.InLaws Go.Proofs.YtoejbjmdcokojaaDoor.InQ Go.Proofs.YtoejbjmdcokojaaDoorW.PrintWords Go.Proofs.YtoejbjmdcokojaaDoorW.PrintLast Go.Proofs.YtoejbjmdcokojaaDoorW.PrintMore

theorem many_loop (x0 : List Int) (s : ByteArray) (hx : s.size ≤ 9000) (h13 : (13 : UInt8) ∉ s.data.toList) : ∀ (u : List UInt8) (n i k : Nat), s.data.toList.drop i = u → i + u.length = s.size → n ≤ i → 2 * u.length + 1 ≤ k →
    portierelaw01_InputMany.l0 k x0 s n i = portierelaw01_InputMany.l0 (k - 2 * u.length) x0 s ((n + begs u : Nat) : Int) s.size := by
  intro u
  induction u with
  | nil =>
    intro n i k hd hi hn hk
    simp only [List.length_nil, Nat.add_zero] at hi
    rw [hi]
    simp [begs]
  | cons b u ih =>
    intro n i k hd hi hn hk
    simp only [List.length_cons] at hk hi
    obtain ⟨k, rfl⟩ : ∃ m, k = m + 1 + 1 := ⟨k - 2, by omega⟩
    obtain ⟨hrd, hlt, hd1⟩ := bt_drop hd
    have hw : Aside0 (wrap64 ((i : Int) + 1) = ((i + 1 : Nat) : Int)) := ⟨by rw [wrap64_id] <;> omega⟩
    have hv : Aside0 (wrap64 ((n : Int) + 1) = ((n + 1 : Nat) : Int)) := ⟨by rw [wrap64_id] <;> omega⟩
    have hb : b ≠ 13 := by
      rintro rfl
      exact h13 (List.mem_of_mem_drop (i := i) (by rw [hd]; simp))
    have hb' : ¬ (b.toNat : Int) = 13 := fun e => hb (UInt8.toNat_inj.1 (by show b.toNat = 13; omega))
    have e : k + 1 + 1 - 2 * (b :: u).length = k - 2 * u.length := by simp only [List.length_cons]; omega
    obtain ⟨k1, hk1⟩ : ∃ k1, k1 = k + 1 := ⟨_, rfl⟩
    have yes : portierelaw01_InputMany.j2 k1 x0 s n i true = portierelaw01_InputMany.l0 (k - 2 * u.length) x0 s ((n + 1 + begs u : Nat) : Int) s.size := by
      rw [hk1]
      simp only [portierelaw01_InputMany.j2]
      rw [if_pos trivial, if_pos (by omega), if_pos (by omega), hrd, if_neg hb', hw.out, hv.out, ih (n + 1) (i + 1) k hd1 (by omega) (by omega) (by omega)]
    have no : portierelaw01_InputMany.j2 k1 x0 s n i false = portierelaw01_InputMany.l0 (k - 2 * u.length) x0 s ((n + begs u : Nat) : Int) s.size := by
      rw [hk1]
      simp only [portierelaw01_InputMany.j2]
      rw [if_neg (by simp), if_pos (by omega), if_pos (by omega), hrd, if_neg hb', hw.out, ih n (i + 1) k hd1 (by omega) (by omega) (by omega)]
    rw [e, ← hk1, begs, begc]
    simp only [portierelaw01_InputMany.l0]
    rw [if_pos (by omega), if_pos (by omega), hrd]
    by_cases h1 : b.toNat < 128
    · rw [if_pos (by omega), yes, if_pos (.inl h1), ← Nat.add_assoc]
    · rw [if_neg (by omega)]
      by_cases h2 : 191 < b.toNat
      · rw [decide_eq_true (by omega), yes, if_pos (.inr h2), ← Nat.add_assoc]
      · rw [decide_eq_false (by omega), no, if_neg (by omega), Nat.zero_add]

theorem InputMany : portierelaw01_InputMany.Pure := by
  intro l0 _ _ hw
  obtain ⟨l, rfl⟩ : ∃ l, l0 = ints l := ⟨Q.bytesOf l0, (ints_bytes (wf_u8 hw)).symm⟩
  clear hw
  refine ⟨20003, ?_⟩
  obtain ⟨k, hk⟩ : ∃ k, k = 20002 := ⟨_, rfl⟩
  rw [show 20003 = k + 1 by omega]
  unfold portierelaw01_InputMany.f
  by_cases hs : ((ints l).length : Int) > 3000
  · rw [if_pos hs]
    simp only [portierelaw01_InputMany.j0]
    rw [if_pos trivial, known_f, Option.bind_some]
  · rw [if_neg hs, known_f, Option.bind_some]
    rw [ints_len] at hs
    simp only [portierelaw01_InputMany.j0]
    rw [if_neg (by decide), decode_f l (by omega), Option.bind_some]
    have hlen := feed_len l
    have hbeg := begs_decode l
    have hval := val_decode l
    have h13 := decode_no l
    obtain ⟨D, hD⟩ : ∃ D, D = decodeL l := ⟨_, rfl⟩
    rw [← hD] at hlen hbeg hval h13 ⊢
    have hsz : (⟨D.toArray⟩ : ByteArray).size = D.length := str_size D
    have h := many_loop (ints l) ⟨D.toArray⟩ (by omega) h13 D 0 0 k rfl (by omega) (Nat.le_refl _) (by omega)
    obtain ⟨m, hm⟩ : ∃ m, k - 2 * D.length = m + 1 := ⟨k - 2 * D.length - 1, by omega⟩
    rw [hm] at h
    refine Eq.trans h ?_
    simp only [portierelaw01_InputMany.l0]
    rw [if_neg (by omega), Nat.zero_add, hsz]
    have again : (∀ r, D ≠ 239 :: 187 :: 191 :: r) → ((input_DecodeS.f ⟨D.toArray⟩).bind fun t => some (t.toList == (⟨D.toArray⟩ : ByteArray).toList)) = some true := by
      intro hm
      rw [decodeS_f _ (by rw [hsz]; omega), Option.bind_some]
      simp only
      rw [decode_again hval h13 hm, beq_self_eq_true]
    have hle : ((begs D : Nat) : Int) ≤ ((ints l).length : Int) := by rw [ints_len]; omega
    by_cases h3 : (D.length : Int) ≥ 3
    · rw [if_pos h3, if_pos (by omega), if_pos (by omega), if_pos hle]
      by_cases hmk : ((⟨D.toArray⟩ : ByteArray).extract 0 3).toList = [239, 187, 191]
      · rw [if_pos hmk]
      · rw [if_neg hmk]
        refine again fun r e => hmk ?_
        rw [Lib.extract_toList, e]
        rfl
    · rw [if_neg h3, if_pos hle]
      refine again fun r e => h3 ?_
      rw [e]
      simp only [List.length_cons]
      omega
end Go.Proofs.YtoejbjmdcokojaaDoor.Pure
