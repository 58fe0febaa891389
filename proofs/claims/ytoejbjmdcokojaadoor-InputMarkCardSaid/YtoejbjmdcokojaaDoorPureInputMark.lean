/- The first mark alone is left out, and only at the beginning: the law portierelaw01.InputMark, for every input. -/
import Derived.Test.YtoejbjmdcokojaaDoorQx4
import Derived.Test.YtoejbjmdcokojaaDoorInQ
namespace Go.Proofs.YtoejbjmdcokojaaDoor.Pure
set_option linter.unusedVariables false
set_option linter.unusedSimpArgs false
open Go Go.RowKit Go.Proofs.YtoejbjmdcokojaaDoor.Q Go.Proofs.YtoejbjmdcokojaaDoor.Hand Go.Proofs.YtoejbjmdcokojaaDoor.InLaws Go.Proofs.YtoejbjmdcokojaaDoor.InQ Go.Proofs.YtoejbjmdcokojaaDoorW.PrintWords Go.Proofs.YtoejbjmdcokojaaDoorW.PrintLast Go.Proofs.YtoejbjmdcokojaaDoorW.PrintMore

def seen (c : UInt8) : UInt8 := UInt8.ofNat (c.toNat % 95 + 32)
theorem seen_num (c : UInt8) : (seen c).toNat = c.toNat % 95 + 32 := by
  unfold seen
  rw [UInt8.toNat_ofNat']
  omega
theorem tmod_nat (n m : Nat) : Int.tmod (n : Int) (m : Int) = ((n % m : Nat) : Int) := by rw [Int.ofNat_tmod]
theorem mark_loop (x : ByteArray) (hx : x.size ≤ 500) : ∀ (u a : List UInt8) (i k : Nat), x.data.toList.drop i = u → i + u.length = x.size → a.length ≤ i → u.length + 1 ≤ k →
    portierelaw01_InputMark.l0 k x ⟨a.toArray⟩ i = portierelaw01_InputMark.l0 (k - u.length) x ⟨(a ++ u.map seen).toArray⟩ x.size := by
  intro u
  induction u with
  | nil =>
    intro a i k hd hi ha hk
    simp only [List.length_nil, Nat.add_zero] at hi
    rw [hi]
    simp
  | cons b u ih =>
    intro a i k hd hi ha hk
    obtain ⟨k, rfl⟩ : ∃ m, k = m + 1 := ⟨k - 1, by omega⟩
    obtain ⟨hrd, hlt, hd1⟩ := bt_drop hd
    simp only [List.length_cons] at hk hi
    have hw : Aside0 (wrap64 ((i : Int) + 1) = ((i + 1 : Nat) : Int)) := ⟨by rw [wrap64_id] <;> omega⟩
    have e : (Int.tmod (bt x i) 95 + 32) % 256 = ((seen b).toNat : Int) := by
      have h := tmod_nat b.toNat 95
      rw [hrd, show ((95 : Int)) = ((95 : Nat) : Int) from rfl, h, seen_num]
      omega
    have es : strOfNums [((seen b).toNat : Int)] = ⟨[seen b].toArray⟩ := str_ints [seen b]
    have ih' := ih (a ++ [seen b]) (i + 1) k hd1 (by omega) (by simp; omega) (by omega)
    simp only [portierelaw01_InputMark.l0]
    rw [if_pos (by omega), if_pos (by omega), e, Option.bind_some, hw.out, es, if_pos (by rw [str_size, str_size, List.length_singleton]; omega), str_app, ih', List.length_cons, Nat.add_sub_add_right]
    simp

theorem InputMark : portierelaw01_InputMark.Pure := by
  intro s _
  refine ⟨s.size + 3, ?_⟩
  obtain ⟨k, hk⟩ : ∃ k, k = s.size + 2 := ⟨_, rfl⟩
  rw [show s.size + 3 = k + 1 by omega]
  unfold portierelaw01_InputMark.f
  by_cases hs : (s.size : Int) > 500
  · rw [if_pos hs]
    simp only [portierelaw01_InputMark.j0]
    rw [if_pos trivial, known_f, Option.bind_some]
  · rw [if_neg hs, known_f, Option.bind_some]
    simp only [portierelaw01_InputMark.j0]
    rw [if_neg (by decide)]
    have hl := data_len s
    have h := mark_loop s (by omega) s.data.toList [] 0 k rfl (by omega) (Nat.le_refl _) (by omega)
    obtain ⟨m, hm⟩ : ∃ m, k - s.data.toList.length = m + 1 := ⟨1, by omega⟩
    rw [hm] at h
    refine Eq.trans h ?_
    rw [List.nil_append]
    obtain ⟨A, hA⟩ : ∃ A, A = s.data.toList.map seen := ⟨_, rfl⟩
    have hn : ∀ c ∈ A, 32 ≤ c.toNat ∧ c.toNat < 127 := by
      intro c hc
      rw [hA] at hc
      obtain ⟨b, _, rfl⟩ := List.mem_map.1 hc
      rw [seen_num]
      omega
    have hlow : ∀ c ∈ A, c.toNat < 128 := fun c hc => by have := hn c hc; omega
    have hno : (13 : UInt8) ∉ A := fun hc => absurd (hn 13 hc).1 (by decide)
    have hlen : A.length = s.size := by rw [hA, List.length_map, hl]
    have hr := ref_ascii A hlow
    have c1 := crlf_id A hno
    have m3 : ∀ L : List UInt8, (⟨#[239, 187, 191]⟩ : ByteArray) ++ ⟨L.toArray⟩ = ⟨(239 :: 187 :: 191 :: L).toArray⟩ := fun L => str_app [239, 187, 191] L
    have m6 : (⟨#[239, 187, 191, 239, 187, 191]⟩ : ByteArray) ++ ⟨A.toArray⟩ = ⟨(239 :: 187 :: 191 :: 239 :: 187 :: 191 :: A).toArray⟩ := str_app [239, 187, 191, 239, 187, 191] A
    have m4 : (⟨#[120, 239, 187, 191]⟩ : ByteArray) ++ ⟨A.toArray⟩ = ⟨(120 :: 239 :: 187 :: 191 :: A).toArray⟩ := str_app [120, 239, 187, 191] A
    have cm : crlf (239 :: 187 :: 191 :: A) = 239 :: 187 :: 191 :: A := crlf_id _ (by simp [hno])
    have d3 : decodeL (239 :: 187 :: 191 :: A) = A := by rw [decode_eq, unmark_yes, hr, c1]
    have d6 : decodeL (239 :: 187 :: 191 :: 239 :: 187 :: 191 :: A) = 239 :: 187 :: 191 :: A := by rw [decode_eq, unmark_yes, ref_mark, hr, cm]
    have d4 : decodeL (120 :: 239 :: 187 :: 191 :: A) = 120 :: 239 :: 187 :: 191 :: A := by
      rw [decode_eq, unmark_head _ (by decide), ref_low _ (by decide), ref_mark, hr]
      exact crlf_id _ (by simp [hno])
    rw [← hA]
    simp only [portierelaw01_InputMark.l0]
    rw [if_neg (by omega), if_pos (by rw [str_size]; omega), m3, decodeS_f _ (by rw [str_size]; simp; omega), Option.bind_some]
    simp only
    rw [d3, if_pos rfl, if_pos (by rw [str_size]; omega), m6, decodeS_f _ (by rw [str_size]; simp; omega), Option.bind_some]
    simp only
    rw [d6, if_pos rfl, if_pos (by rw [str_size]; omega), m4, decodeS_f _ (by rw [str_size]; simp; omega), Option.bind_some]
    simp only
    rw [d4, beq_self_eq_true]
end Go.Proofs.YtoejbjmdcokojaaDoor.Pure
