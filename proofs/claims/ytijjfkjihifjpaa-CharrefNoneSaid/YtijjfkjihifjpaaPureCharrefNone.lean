/- What is no reference has no bytes; a text without the sign stays; a place that is none has none: the law portierelaw04.CharrefNone, for every input. -/
import Derived.Test.YtijjfkjihifjpaaPx16
import Derived.Test.YtijjfkjihifjpaaLaws4
import Derived.Test.YtijjfkjihifjpaaKnown4
import Derived.Test.YtijjfkjihifjpaaRefTake
namespace Go.Proofs.Ytijjfkjihifjpaa.Pure
set_option linter.unusedVariables false
set_option linter.unusedSimpArgs false
open Go Go.RowKit Go.Proofs.Ytijjfkjihifjpaa.P Go.Proofs.Ytijjfkjihifjpaa.Hand Go.Proofs.Ytijjfkjihifjpaa.RefCharref Go.Proofs.Ytijjfkjihifjpaa.Laws4 Go.Proofs.YtijjfkjihifjpaaW.PrintWords Go.Proofs.YtijjfkjihifjpaaW.PrintLast Go.Proofs.YtijjfkjihifjpaaW.PrintMore

def strip (l : List UInt8) : List UInt8 := l.filter (· != 38)
theorem strip_none (l : List UInt8) : 38 ∉ strip l := by simp [strip]
theorem take_of (s : ByteArray) (i : Int) (attr : Bool) (h : s.size ≤ 140737488351232) : charref_Take.f s i attr = some (takeOf s i attr) := by
  unfold charref_Take.f
  rw [if_pos h]
theorem none_end (s t : ByteArray) (i : Int) (attr : Bool) (k : Nat) (hs : s.size ≤ 1000) (ht : t.size ≤ 1000) (h : 38 ∉ t.data.toList) :
    portierelaw04_CharrefNone.l0 (k + 1) s i attr t (s.size : Int) = some true := by
  simp only [portierelaw04_CharrefNone.l0]
  rw [if_neg (by omega)]
  have hm : 0 ≤ (mx i 0) % 1000 ∧ (mx i 0) % 1000 < 1000 := by omega
  generalize (mx i 0) % 1000 = m at *
  have W : Aside0 (wrap64 ((s.size : Int) + m) = (s.size : Int) + m) := ⟨by rw [wrap64_id] <;> omega⟩
  have h1 : takeOf t i attr = (⟨#[]⟩, 0, 0) := by
    unfold takeOf
    by_cases hi : i < 0 ∨ (t.size : Int) ≤ i
    · rw [if_pos hi]
    · rw [if_neg hi]
      cases hd : t.data.toList.drop i.toNat with
      | nil => rfl
      | cons c l =>
        refine refAt_none c l attr ?_
        intro e
        have : c ∈ t.data.toList.drop i.toNat := by rw [hd]; exact List.mem_cons_self
        exact h (e ▸ List.mem_of_mem_drop this)
  have h2 : takeOf s ((s.size : Int) + m) attr = (⟨#[]⟩, 0, 0) := by
    unfold takeOf
    rw [if_pos (by omega)]
  have hsz : ((⟨#[38, 32]⟩ : ByteArray) ++ t).size = 2 + t.size := by rw [ByteArray.size_append]; rfl
  have h3 : takeOf ((⟨#[38, 32]⟩ : ByteArray) ++ t) 0 attr = (⟨#[]⟩, 0, 0) := by
    unfold takeOf
    rw [if_neg (by omega), app_list]
    exact refAt_blank t.data.toList attr
  have h4 : charref_All.f t attr = some (textOf (allOf t.size t.data.toList attr)) := by
    unfold charref_All.f
    rw [if_pos (by omega)]
  rw [take_of t i attr (by omega), h1, Option.bind_some, W.out, take_of s _ attr (by omega), h2, Option.bind_some, if_pos (by omega), take_of _ 0 attr (by omega), h3, Option.bind_some]
  simp only
  rw [if_pos trivial, if_pos trivial, if_pos trivial, if_pos trivial, if_pos trivial, if_pos trivial, h4, Option.bind_some]
  congr 1
  rw [beq_iff_eq, toList_data, toList_data, textOf_data, size_list, allOf_plain attr _ h]
theorem none_loop (s : ByteArray) (i : Int) (attr : Bool) (hs : s.size ≤ 1000) : ∀ (l : List UInt8) (j : Nat) (t : ByteArray) (k : Nat), s.data.toList.drop j = l → j ≤ s.size → t.size ≤ j → 38 ∉ t.data.toList → l.length + 1 ≤ k →
    portierelaw04_CharrefNone.l0 k s i attr t j = some true := by
  intro l
  induction l with
  | nil =>
    intro j t k hd hj ht hn hk
    have : s.size ≤ j := by rw [size_list]; exact List.drop_eq_nil_iff.1 hd
    obtain rfl : j = s.size := by omega
    obtain ⟨k, rfl⟩ : ∃ m, k = m + 1 := ⟨k - 1, by omega⟩
    exact none_end s t i attr k hs (by omega) hn
  | cons c l ih =>
    intro j t k hd hj ht hn hk
    obtain ⟨hbt, hlt, hd1⟩ := bt_drop hd
    obtain ⟨k, rfl⟩ : ∃ m, k = m + 1 := ⟨k - 1, by omega⟩
    have W : Aside0 (wrap64 ((j : Int) + 1) = ((j + 1 : Nat) : Int)) := ⟨by rw [wrap64_id] <;> omega⟩
    simp only [portierelaw04_CharrefNone.l0]
    rw [if_pos (by omega), if_pos (by omega), hbt, W.out]
    by_cases hc : c = 38
    · rw [if_pos (by rw [hc]; rfl)]
      exact ih (j + 1) t k hd1 (by omega) (by omega) hn (by simp at hk; omega)
    · have hext : (s.extract j (j + 1)).data.toList = [c] := by
        rw [ext_list, hd, show j + 1 - j = 1 by omega]
        rfl
      rw [if_neg (fun e => hc (UInt8.toNat_inj.1 (by have : (38 : UInt8).toNat = 38 := rfl; omega))), if_pos (by omega), if_pos (by omega), if_pos (by rw [Int.toNat_natCast, Int.toNat_natCast]; omega), Int.toNat_natCast, Int.toNat_natCast]
      refine ih (j + 1) (t ++ s.extract j (j + 1)) k hd1 (by omega) ?_ ?_ (by simp at hk; omega)
      · rw [ByteArray.size_append, size_list (s.extract j (j + 1)), hext]; simp; omega
      · rw [app_list, hext]
        simp only [List.mem_append, List.mem_singleton, not_or]
        exact ⟨hn, fun e => hc e.symm⟩
theorem CharrefNone : portierelaw04_CharrefNone.Pure := by
  intro s i attr hs _
  refine ⟨s.size + 1 + 1, ?_⟩
  have bad : portierelaw04_CharrefNone.j0 (s.size + 1 + 1) s i attr true = some true := by
    simp only [portierelaw04_CharrefNone.j0]
    rw [if_pos trivial, known_true]
    rfl
  unfold portierelaw04_CharrefNone.f
  by_cases h : (s.size : Int) > 1000
  · rw [if_pos h, bad]
  rw [if_neg h, known_true, Option.bind_some]
  generalize hk : s.size + 1 = k
  simp only [portierelaw04_CharrefNone.j0]
  rw [if_neg (by simp)]
  exact none_loop s i attr (by omega) s.data.toList 0 ⟨#[]⟩ k rfl (by omega) (by decide) (by simp) (by rw [← size_list]; omega)

end Go.Proofs.Ytijjfkjihifjpaa.Pure
