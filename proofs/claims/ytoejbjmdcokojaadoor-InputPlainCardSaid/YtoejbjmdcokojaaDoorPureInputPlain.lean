/- Bytes below 80, without 0d, are themselves, and ends of lines are one byte each: the law portierelaw01.InputPlain, for every input. -/
import Derived.Test.YtoejbjmdcokojaaDoorQx3
import Derived.Test.YtoejbjmdcokojaaDoorInQ
namespace Go.Proofs.YtoejbjmdcokojaaDoor.Pure
set_option linter.unusedVariables false
set_option linter.unusedSimpArgs false
open Go Go.RowKit Go.Proofs.YtoejbjmdcokojaaDoor.Q Go.Proofs.YtoejbjmdcokojaaDoor.Hand Go.Proofs.YtoejbjmdcokojaaDoor.InLaws Go.Proofs.YtoejbjmdcokojaaDoor.InQ Go.Proofs.YtoejbjmdcokojaaDoorW.PrintWords Go.Proofs.YtoejbjmdcokojaaDoorW.PrintLast Go.Proofs.YtoejbjmdcokojaaDoorW.PrintMore

def pl (c : UInt8) : UInt8 := if c.toNat % 128 = 13 then 10 else UInt8.ofNat (c.toNat % 128)
def cr (c : UInt8) : List UInt8 := if c = 10 then [13, c] else [c]
theorem pl_num (c : UInt8) (h : ¬ c.toNat % 128 = 13) : (pl c).toNat = c.toNat % 128 := by
  unfold pl
  rw [if_neg h, UInt8.toNat_ofNat']
  omega
theorem pl_low (c : UInt8) : (pl c).toNat < 128 := by
  by_cases h : c.toNat % 128 = 13
  · unfold pl; rw [if_pos h]; decide
  · rw [pl_num c h]; omega
theorem pl_no (c : UInt8) : pl c ≠ 13 := by
  by_cases h : c.toNat % 128 = 13
  · unfold pl; rw [if_pos h]; decide
  · intro e
    have := pl_num c h
    rw [e] at this
    exact h this.symm
theorem tmod_nat (n m : Nat) : Int.tmod (n : Int) (m : Int) = ((n % m : Nat) : Int) := by rw [Int.ofNat_tmod]
theorem crlf_cr : ∀ l : List UInt8, (13 : UInt8) ∉ l → crlf (l.flatMap cr) = l
  | [], _ => rfl
  | c :: l, h => by
    have h1 : c ≠ 13 := fun e => h (by simp [e])
    have ih := crlf_cr l fun e => h (by simp [e])
    rw [List.flatMap_cons]
    unfold cr
    by_cases hc : c = 10
    · subst hc
      rw [if_pos rfl]
      show crlf (13 :: 10 :: (l.flatMap cr)) = _
      rw [crlf, if_pos rfl, if_pos (show (10 :: l.flatMap cr).head? = some 10 from rfl), crlf, if_neg (by decide), ih]
    · rw [if_neg hc]
      show crlf (c :: (l.flatMap cr)) = _
      rw [crlf, if_neg h1, ih]
theorem plain_loop (x : List UInt8) (hx : x.length ≤ 3000) : ∀ (u a c : List UInt8) (i k : Nat), x.drop i = u → i + u.length = x.length → a.length ≤ i → c.length ≤ 2 * i → u.length + 1 ≤ k →
    portierelaw01_InputPlain.l0 k (ints x) (ints a) (ints c) i = portierelaw01_InputPlain.l0 (k - u.length) (ints x) (ints (a ++ u.map pl)) (ints (c ++ (u.map pl).flatMap cr)) x.length := by
  intro u
  induction u with
  | nil =>
    intro a c i k hd hi ha hc hk
    simp only [List.length_nil, Nat.add_zero] at hi
    subst hi
    simp
  | cons b u ih =>
    intro a c i k hd hi ha hc hk
    obtain ⟨k, rfl⟩ : ∃ m, k = m + 1 := ⟨k - 1, by omega⟩
    obtain ⟨hrd, hlt, hd1⟩ := rd_at hd
    simp only [List.length_cons] at hk hi
    have hw : Aside0 (wrap64 ((i : Int) + 1) = ((i + 1 : Nat) : Int)) := ⟨by rw [wrap64_id] <;> omega⟩
    have e : Int.tmod (rd (ints x) i) 128 = ((b.toNat % 128 : Nat) : Int) := by rw [hrd]; exact tmod_nat b.toNat 128
    have go : ∀ d : List UInt8, d = [pl b] → ∀ f : List UInt8, f = cr (pl b) → portierelaw01_InputPlain.l0 k (ints x) (ints (a ++ d)) (ints (c ++ f)) ((i + 1 : Nat) : Int) = portierelaw01_InputPlain.l0 (k + 1 - (u.length + 1)) (ints x) (ints (a ++ (b :: u).map pl)) (ints (c ++ ((b :: u).map pl).flatMap cr)) x.length := by
      rintro d rfl f rfl
      have hcr : (cr (pl b)).length ≤ 2 := by unfold cr; split <;> simp
      rw [ih (a ++ [pl b]) (c ++ cr (pl b)) (i + 1) k hd1 (by omega) (by simp; omega) (by rw [List.length_append]; omega) (by omega), Nat.add_sub_add_right]
      simp
    have sp : ∀ (y : List UInt8) (n : Int) (d : UInt8), (d.toNat : Int) = n → ints y ++ [n] = ints (y ++ [d]) := by
      intro y n d h
      simp [ints, h]
    simp only [portierelaw01_InputPlain.l0]
    rw [if_pos (by rw [ints_len]; omega), if_pos (by omega), e, hw.out, List.length_cons]
    by_cases h13 : b.toNat % 128 = 13
    · rw [if_pos (by omega), if_pos (by rw [ints_len]; omega), Option.bind_some, if_pos trivial, if_pos (by rw [ints_len]; omega), Option.bind_some, sp a 10 10 rfl, sp c 13 13 rfl, if_pos (by rw [ints_len, List.length_append, List.length_singleton]; omega), sp (c ++ [13]) 10 10 rfl, List.append_assoc]
      have hp : pl b = 10 := by unfold pl; rw [if_pos h13]
      exact go _ (by rw [hp]) _ (by rw [hp]; rfl)
    · have hp := pl_num b h13
      rw [if_neg (by omega), if_pos (by rw [ints_len]; omega), Option.bind_some, sp a _ (pl b) (by rw [hp])]
      by_cases h10 : b.toNat % 128 = 10
      · have hp10 : pl b = 10 := UInt8.toNat_inj.1 (by rw [hp, h10]; rfl)
        rw [if_pos (by omega), if_pos (by rw [ints_len]; omega), Option.bind_some, sp c 13 13 rfl, if_pos (by rw [ints_len, List.length_append, List.length_singleton]; omega), sp (c ++ [13]) _ (pl b) (by rw [hp]), List.append_assoc]
        exact go _ rfl _ (by rw [hp10]; rfl)
      · have hn : pl b ≠ 10 := by intro e; rw [e] at hp; exact h10 hp.symm
        rw [if_neg (by omega), if_pos (by rw [ints_len]; omega), sp c _ (pl b) (by rw [hp])]
        exact go _ rfl _ (by unfold cr; rw [if_neg hn])

theorem InputPlain : portierelaw01_InputPlain.Pure := by
  intro l0 _ _ hw
  obtain ⟨l, rfl⟩ : ∃ l, l0 = ints l := ⟨Q.bytesOf l0, (ints_bytes (wf_u8 hw)).symm⟩
  clear hw
  refine ⟨l.length + 3, ?_⟩
  obtain ⟨k, hk⟩ : ∃ k, k = l.length + 2 := ⟨_, rfl⟩
  rw [show l.length + 3 = k + 1 by omega]
  unfold portierelaw01_InputPlain.f
  by_cases hs : ((ints l).length : Int) > 3000
  · rw [if_pos hs]
    simp only [portierelaw01_InputPlain.j0]
    rw [if_pos trivial, known_f, Option.bind_some]
  · rw [if_neg hs, known_f, Option.bind_some]
    rw [ints_len] at hs
    simp only [portierelaw01_InputPlain.j0]
    rw [if_neg (by decide)]
    have h := plain_loop l (by omega) l [] [] 0 k rfl (by omega) (Nat.le_refl _) (Nat.le_refl _) (by omega)
    obtain ⟨m, hm⟩ : ∃ m, k - l.length = m + 1 := ⟨1, by omega⟩
    rw [hm] at h
    refine Eq.trans h ?_
    obtain ⟨A, hA⟩ : ∃ A, A = l.map pl := ⟨_, rfl⟩
    have hlow : ∀ c ∈ A, c.toNat < 128 := by
      intro c hc
      rw [hA] at hc
      obtain ⟨b, _, rfl⟩ := List.mem_map.1 hc
      exact pl_low b
    have hno : (13 : UInt8) ∉ A := by
      intro hc
      rw [hA] at hc
      obtain ⟨b, _, e⟩ := List.mem_map.1 hc
      exact pl_no b e
    have hlen : A.length = l.length := by rw [hA, List.length_map]
    have hCl : ∀ L : List UInt8, (L.flatMap cr).length ≤ 2 * L.length := by
      intro L
      induction L with
      | nil => simp
      | cons b L ih =>
        rw [List.flatMap_cons, List.length_append, List.length_cons]
        have : (cr b).length ≤ 2 := by unfold cr; split <;> simp
        omega
    have hClow : ∀ c ∈ A.flatMap cr, c.toNat < 128 := by
      intro c hc
      obtain ⟨b, hb, hc⟩ := List.mem_flatMap.1 hc
      unfold cr at hc
      split at hc
      · simp only [List.mem_cons, List.not_mem_nil, or_false] at hc
        rcases hc with rfl | rfl
        · decide
        · exact hlow _ hb
      · simp only [List.mem_cons, List.not_mem_nil, or_false] at hc
        rw [hc]; exact hlow _ hb
    rw [List.nil_append, List.nil_append, ← hA]
    simp only [portierelaw01_InputPlain.l0]
    have h2 := hCl A
    rw [if_neg (by rw [ints_len]; omega), decode_f A (by omega), Option.bind_some, str_ints, InLaws.decode_ascii A hlow, crlf_id A hno, if_pos rfl, decode_f (A.flatMap cr) (by omega), Option.bind_some, InLaws.decode_ascii _ hClow, crlf_cr A hno, beq_self_eq_true]
end Go.Proofs.YtoejbjmdcokojaaDoor.Pure
