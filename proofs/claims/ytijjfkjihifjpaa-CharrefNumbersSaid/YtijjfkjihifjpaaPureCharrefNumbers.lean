/- A number, in either base, is the character of that code, if that is one, and none of those that are told otherwise: the law portierelaw04.CharrefNumbers, for every input. -/
import Derived.Test.YtijjfkjihifjpaaPx15
import Derived.Test.YtijjfkjihifjpaaDigits4
import Derived.Test.YtijjfkjihifjpaaKnown4
namespace Go.Proofs.Ytijjfkjihifjpaa.Pure
set_option linter.unusedVariables false
set_option linter.unusedSimpArgs false
open Go Go.RowKit Go.Proofs.Ytijjfkjihifjpaa.P Go.Proofs.Ytijjfkjihifjpaa.Hand Go.Proofs.Ytijjfkjihifjpaa.RefCharref Go.Proofs.Ytijjfkjihifjpaa.Laws4 Go.Proofs.YtijjfkjihifjpaaW.PrintWords Go.Proofs.YtijjfkjihifjpaaW.PrintLast Go.Proofs.YtijjfkjihifjpaaW.PrintMore

theorem wf_bounds {k : IntKind} {n : Int} (h : (Lit.int k n).wf = true) : k.min ≤ n ∧ n ≤ k.max := by
  simp only [Lit.wf, Bool.and_eq_true, decide_eq_true_eq] at h
  exact h
theorem one_rune (x : Int) : runesBytes [x] = Utf8.encode x := by
  unfold runesBytes
  simp only [List.foldl_cons, List.foldl_nil]
  exact bytes_ext (by rw [app_list]; rfl)
theorem end_of (c : Int) (h0 : 0 ≤ c) (h1 : c < 1179648) (k : Nat) :
    portierelaw04_CharrefNumbers.j1 (k + 1 + 1) c (pointOf (min c 1114112)).1 (pointOf (min c 1114112)).2 false = some true := by
  have bad : c = 0 ∨ 1114111 < c ∨ (55296 ≤ c ∧ c ≤ 57343) → pointOf (min c 1114112) = (⟨#[239, 191, 189]⟩, 2) := by
    intro h
    unfold pointOf
    rw [if_pos (by omega)]
  have end2 : portierelaw04_CharrefNumbers.j2 (k + 1) c (⟨#[239, 191, 189]⟩ : ByteArray) 2 true = some true := by
    simp only [portierelaw04_CharrefNumbers.j2]
    rw [if_pos trivial, toList_data, if_pos rfl]
    rfl
  generalize hk : k + 1 = k1 at *
  simp only [portierelaw04_CharrefNumbers.j1]
  rw [if_neg (by simp)]
  by_cases hb : c = 0 ∨ 1114111 < c ∨ (55296 ≤ c ∧ c ≤ 57343)
  · rw [bad hb]
    by_cases c1 : c = 0
    · rw [if_pos c1]; exact end2
    · rw [if_neg c1]
      by_cases c2 : c > 1114111
      · rw [if_pos c2]; exact end2
      · rw [if_neg c2, if_pos (by omega), show decide (c ≤ 57343) = true by simp; omega]; exact end2
  · have hm : min c 1114112 = c := by omega
    have hp : pointOf c = if 128 ≤ c ∧ c ≤ 159 then (Utf8.encode (toldTab.getD (c - 128).toNat 0), 2) else (Utf8.encode c, 0) := by
      unfold pointOf
      rw [if_neg (by omega)]
    have w32 : wrap32 c = c := by unfold wrap32; omega
    have good : portierelaw04_CharrefNumbers.j2 k1 c (pointOf (min c 1114112)).1 (pointOf (min c 1114112)).2 false = some true := by
      rw [hm, ← hk]
      simp only [portierelaw04_CharrefNumbers.j2]
      by_cases d1 : 128 ≤ c ∧ c ≤ 159
      · rw [if_pos d1] at hp
        rw [hp, if_neg (by simp), if_pos (show c ≥ 128 from d1.1), if_pos d1.2]
        rfl
      · rw [if_neg d1] at hp
        rw [hp, if_neg (by simp), w32, one_rune]
        simp only
        rw [if_pos trivial]
        by_cases d2 : c ≥ 128
        · rw [if_pos d2, if_neg (show ¬ c ≤ 159 by omega)]
          simp
        · rw [if_neg d2]
          simp
    rw [if_neg (by omega), if_neg (by omega)]
    by_cases c3 : c ≥ 55296
    · rw [if_pos c3, show decide (c ≤ 57343) = false by simp; omega]; exact good
    · rw [if_neg c3]; exact good
theorem CharrefNumbers : portierelaw04_CharrefNumbers.Pure := by
  intro a more ha hm
  have hb : 0 ≤ a ∧ a ≤ 4294967295 := wf_bounds ha
  clear ha
  refine ⟨33 + 1 + 1, ?_⟩
  have bad : ∀ c, portierelaw04_CharrefNumbers.j0 (33 + 1 + 1) more c true = some true := by
    intro c
    generalize (33 : Nat) + 1 = k
    simp only [portierelaw04_CharrefNumbers.j0]
    rw [if_pos trivial, known_true]
    rfl
  unfold portierelaw04_CharrefNumbers.f
  by_cases h : (more.size : Int) > 100
  · rw [if_pos h, bad]
  rw [if_neg h, known_true, Option.bind_some]
  clear bad
  obtain ⟨c, hc, hc0, hc1⟩ : ∃ c : Int, Int.tmod a 1179648 = c ∧ 0 ≤ c ∧ c < 1179648 := by
    refine ⟨_, rfl, ?_⟩
    rw [Int.tmod_eq_emod_of_nonneg hb.1]
    omega
  rw [hc]
  obtain ⟨t, ht, ⟨tne, tds, tval⟩, tsz⟩ := digs_of 10 (.inl rfl) 33 c (by omega) hc0 (by omega) (by have h2 : (2 : Int) ^ 33 = 8589934592 := (by decide); omega)
  obtain ⟨u, hu, ⟨une, uds, uval⟩, usz⟩ := digs_of 16 (.inr rfl) 33 c (by omega) hc0 (by omega) (by have h2 : (2 : Int) ^ 33 = 8589934592 := (by decide); omega)
  have htz : t.size ≤ 100 := by omega
  have huz : u.size ≤ 100 := by omega
  clear tsz usz
  have htl := size_list t
  have hul := size_list u
  have vt : valueOf 10 t.data.toList 0 = c := by rw [tval]; omega
  have vu : valueOf 16 u.data.toList 0 = c := by rw [uval]; omega
  have sz1 : ((((⟨#[38, 35]⟩ : ByteArray) ++ t) ++ (⟨#[59]⟩ : ByteArray)) ++ more).size = 2 + t.size + 1 + more.size := by
    rw [ByteArray.size_append, ByteArray.size_append, ByteArray.size_append]; rfl
  have sz2 : ((((⟨#[38, 35, 120]⟩ : ByteArray) ++ u) ++ (⟨#[59]⟩ : ByteArray)) ++ more).size = 3 + u.size + 1 + more.size := by
    rw [ByteArray.size_append, ByteArray.size_append, ByteArray.size_append]; rfl
  have k1 : charref_Take.f ((((⟨#[38, 35]⟩ : ByteArray) ++ t) ++ (⟨#[59]⟩ : ByteArray)) ++ more) 0 false = some ((pointOf (min c 1114112)).1, (t.size : Int) + 3, (pointOf (min c 1114112)).2) := by
    rw [take_num _ (t.data.toList ++ 59 :: more.data.toList) false (by rw [app_list, app_list, app_list]; simp) (by omega)]
    rw [numRef_dec _ _ tne (fun c hc => ⟨(tds c hc).1, (tds c hc).2.1, (tds c hc).2.2.1, (tds c hc).2.2.2.1⟩), vt, htl]
  have k2 : charref_Take.f ((((⟨#[38, 35, 120]⟩ : ByteArray) ++ u) ++ (⟨#[59]⟩ : ByteArray)) ++ more) 0 true = some ((pointOf (min c 1114112)).1, (u.size : Int) + 4, (pointOf (min c 1114112)).2) := by
    rw [take_num _ (120 :: (u.data.toList ++ 59 :: more.data.toList)) true (by rw [app_list, app_list, app_list]; simp) (by omega)]
    rw [numRef_hex _ _ une (fun c hc => ⟨(uds c hc).1, (uds c hc).2.1⟩), vu, hul]
  have hend := end_of c hc0 hc1 32
  rw [show 32 + 1 + 1 = 33 + 1 from rfl] at hend
  have W1 : Aside0 (wrap64 (3 + (t.size : Int)) = (t.size : Int) + 3) := ⟨by rw [wrap64_id] <;> omega⟩
  have W2 : Aside0 (wrap64 (4 + (u.size : Int)) = (u.size : Int) + 4) := ⟨by rw [wrap64_id] <;> omega⟩
  generalize (33 : Nat) + 1 = k at *
  simp only [portierelaw04_CharrefNumbers.j0]
  rw [if_neg (by simp), ht, Option.bind_some, if_pos (by omega), if_pos (by omega), if_pos (by omega), k1, Option.bind_some, hu, Option.bind_some, if_pos (by omega), if_pos (by omega), if_pos (by omega), k2, Option.bind_some]
  simp only
  rw [if_pos trivial, if_pos trivial, Option.bind_some, W1.out, if_pos rfl, Option.bind_some, W2.out, show ((u.size : Int) + 4 != (u.size : Int) + 4) = false by simp]
  exact hend

end Go.Proofs.Ytijjfkjihifjpaa.Pure
