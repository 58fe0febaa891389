/- With a semicolon a name is the same in a text and in an attribute, whatever stands behind: the law portierelaw04.CharrefEnds, for every input. -/
import Derived.Test.YtijjfkjihifjpaaPx16
import Derived.Test.YtijjfkjihifjpaaLaws4
import Derived.Test.YtijjfkjihifjpaaKnown4
namespace Go.Proofs.Ytijjfkjihifjpaa.Pure
set_option linter.unusedVariables false
set_option linter.unusedSimpArgs false
open Go Go.RowKit Go.Proofs.Ytijjfkjihifjpaa.P Go.Proofs.Ytijjfkjihifjpaa.Hand Go.Proofs.Ytijjfkjihifjpaa.RefCharref Go.Proofs.Ytijjfkjihifjpaa.Laws4 Go.Proofs.YtijjfkjihifjpaaW.PrintWords Go.Proofs.YtijjfkjihifjpaaW.PrintLast Go.Proofs.YtijjfkjihifjpaaW.PrintMore

theorem wf_bounds {k : IntKind} {n : Int} (h : (Lit.int k n).wf = true) : k.min ≤ n ∧ n ≤ k.max := by
  simp only [Lit.wf, Bool.and_eq_true, decide_eq_true_eq] at h
  exact h
theorem rd_name (i : Nat) (hi : i < 22) (l : List ByteArray) (h : l = named.map (·.1)) : rdOf ByteArray.empty l (i : Int) = (named.getD i nmD).1 := by
  subst h
  unfold rdOf
  rw [Int.toNat_natCast]
  have hl : i < named.length := by simp [named]; omega
  simp [List.getD_eq_getElem?_getD, List.getElem?_eq_getElem hl]
theorem name_small (i : Nat) (hi : i < 22) : (named.getD i nmD).1.size ≤ 6 := by
  have h : i = 0 ∨ i = 1 ∨ i = 2 ∨ i = 3 ∨ i = 4 ∨ i = 5 ∨ i = 6 ∨ i = 7 ∨ i = 8 ∨ i = 9 ∨ i = 10 ∨ i = 11 ∨ i = 12 ∨ i = 13 ∨ i = 14 ∨ i = 15 ∨ i = 16 ∨ i = 17 ∨ i = 18 ∨ i = 19 ∨ i = 20 ∨ i = 21 := by omega
  rcases h with h | h | h | h | h | h | h | h | h | h | h | h | h | h | h | h | h | h | h | h | h | h <;> (subst h; decide)
theorem CharrefEnds : portierelaw04_CharrefEnds.Pure := by
  intro a more ha hm
  have hb : 0 ≤ a ∧ a ≤ 255 := wf_bounds ha
  clear ha
  refine ⟨0 + 1, ?_⟩
  have bad : ∀ x, portierelaw04_CharrefEnds.j0 (0 + 1) more x true = some true := by
    intro x
    simp only [portierelaw04_CharrefEnds.j0]
    rw [if_pos trivial, known_true]
    rfl
  have hw : wrap64 a = a := wrap64_id (by omega) (by omega)
  obtain ⟨i, hi, hai⟩ : ∃ i : Nat, i < 22 ∧ Int.tmod a 22 = i := by
    refine ⟨(a % 22).toNat, by omega, ?_⟩
    rw [Int.tmod_eq_emod_of_nonneg hb.1]
    omega
  unfold portierelaw04_CharrefEnds.f
  rw [Option.bind_some]
  generalize hl : ([(⟨#[97, 109, 112]⟩ : ByteArray), (⟨#[108, 116]⟩ : ByteArray), (⟨#[103, 116]⟩ : ByteArray), (⟨#[113, 117, 111, 116]⟩ : ByteArray), (⟨#[97, 112, 111, 115]⟩ : ByteArray), (⟨#[110, 98, 115, 112]⟩ : ByteArray), (⟨#[99, 111, 112, 121]⟩ : ByteArray), (⟨#[114, 101, 103]⟩ : ByteArray), (⟨#[104, 101, 108, 108, 105, 112]⟩ : ByteArray), (⟨#[109, 100, 97, 115, 104]⟩ : ByteArray), (⟨#[110, 100, 97, 115, 104]⟩ : ByteArray), (⟨#[108, 115, 113, 117, 111]⟩ : ByteArray), (⟨#[114, 115, 113, 117, 111]⟩ : ByteArray), (⟨#[108, 100, 113, 117, 111]⟩ : ByteArray), (⟨#[114, 100, 113, 117, 111]⟩ : ByteArray), (⟨#[101, 117, 114, 111]⟩ : ByteArray), (⟨#[116, 105, 109, 101, 115]⟩ : ByteArray), (⟨#[100, 105, 118, 105, 100, 101]⟩ : ByteArray), (⟨#[112, 97, 114, 97]⟩ : ByteArray), (⟨#[115, 101, 99, 116]⟩ : ByteArray), (⟨#[110, 111, 116]⟩ : ByteArray), (⟨#[110, 111, 116, 105, 110]⟩ : ByteArray)] : List ByteArray) = l
  have hll : (l.length : Int) = 22 := by rw [← hl]; rfl
  have hrd := rd_name i hi l (by rw [← hl]; rfl)
  rw [hll, hw, hai, if_neg (by omega), if_pos (by omega), if_pos (by omega), hrd]
  have hsm := name_small i hi
  by_cases h : (more.size : Int) > 100
  · rw [if_pos h, bad]
  · rw [if_neg h, known_true, Option.bind_some]
    have go : ∀ attr, charref_Take.f ((((⟨#[38]⟩ : ByteArray) ++ (named.getD i nmD).1) ++ (⟨#[59]⟩ : ByteArray)) ++ more) 0 attr = some (Utf8.encode (named.getD i nmD).2.1, ((named.getD i nmD).1.size : Int) + 2, 0) := by
      intro attr
      unfold charref_Take.f
      have hsz : ((((⟨#[38]⟩ : ByteArray) ++ (named.getD i nmD).1) ++ (⟨#[59]⟩ : ByteArray)) ++ more).size = 1 + (named.getD i nmD).1.size + 1 + more.size := by
        rw [ByteArray.size_append, ByteArray.size_append, ByteArray.size_append]; rfl
      rw [if_pos (by omega)]
      congr 1
      unfold takeOf
      rw [if_neg (by omega)]
      have hd : ((((⟨#[38]⟩ : ByteArray) ++ (named.getD i nmD).1) ++ (⟨#[59]⟩ : ByteArray)) ++ more).data.toList = 38 :: ((named.getD i nmD).1.data.toList ++ 59 :: more.data.toList) := by
        rw [app_list, app_list, app_list]; simp
      rw [hd]
      show refAt (38 :: ((named.getD i nmD).1.data.toList ++ 59 :: more.data.toList)) attr = _
      rw [no_hash i hi, ends_of i hi]
    simp only [portierelaw04_CharrefEnds.j0]
    rw [if_neg (by simp), if_pos (by omega), if_pos (by omega), if_pos (by omega), go, Option.bind_some, go, Option.bind_some]
    simp only
    rw [if_pos trivial, if_pos trivial, if_pos trivial, if_pos trivial, if_pos (by rw [wrap64_id] <;> omega)]
    have := encode_ne (named.getD i nmD).2.1
    rw [toList_data]
    cases he : (Utf8.encode (named.getD i nmD).2.1).data.toList with
    | nil => exact absurd he this
    | cons a l => rfl

end Go.Proofs.Ytijjfkjihifjpaa.Pure
