/- Texts one behind the other are read as each by itself, if no reference stands across: the law portierelaw04.CharrefParts, for every input. -/
import Derived.Test.YtijjfkjihifjpaaPx16
import Derived.Test.YtijjfkjihifjpaaLaws4
import Derived.Test.YtijjfkjihifjpaaKnown4
namespace Go.Proofs.Ytijjfkjihifjpaa.Pure
set_option linter.unusedVariables false
set_option linter.unusedSimpArgs false
open Go Go.RowKit Go.Proofs.Ytijjfkjihifjpaa.P Go.Proofs.Ytijjfkjihifjpaa.Hand Go.Proofs.Ytijjfkjihifjpaa.RefCharref Go.Proofs.Ytijjfkjihifjpaa.Laws4 Go.Proofs.YtijjfkjihifjpaaW.PrintWords Go.Proofs.YtijjfkjihifjpaaW.PrintLast Go.Proofs.YtijjfkjihifjpaaW.PrintMore

theorem CharrefParts : portierelaw04_CharrefParts.Pure := by
  intro s t hs ht
  refine ⟨0 + 1, ?_⟩
  have bad : portierelaw04_CharrefParts.j0 (0 + 1) s t true = some true := by
    simp only [portierelaw04_CharrefParts.j0]
    rw [if_pos trivial, known_true]
    rfl
  unfold portierelaw04_CharrefParts.f
  by_cases h : (s.size : Int) > 500
  · rw [if_pos h, bad]
  rw [if_neg h]
  by_cases h2 : (t.size : Int) > 500
  · rw [if_pos h2, bad]
  rw [if_neg h2, known_true, Option.bind_some]
  have go : ∀ x : ByteArray, x.size ≤ 1048576 → charref_All.f x false = some (textOf (allOf x.size x.data.toList false)) := by
    intro x hx
    unfold charref_All.f
    rw [if_pos hx]
  have hd : ((s ++ (⟨#[32]⟩ : ByteArray)) ++ t).data.toList = s.data.toList ++ 32 :: t.data.toList := by
    rw [app_list, app_list]; simp
  have hsz : ((s ++ (⟨#[32]⟩ : ByteArray)) ++ t).size = s.size + 1 + t.size := by
    rw [ByteArray.size_append, ByteArray.size_append]; rfl
  have ls := allOf_len false _ s.data.toList (Nat.le_refl _)
  have lt := allOf_len false _ t.data.toList (Nat.le_refl _)
  have hsl := size_list s
  have htl := size_list t
  have zs : (textOf (allOf s.size s.data.toList false)).size ≤ 4 * s.size := by rw [size_list, textOf_data, hsl]; exact ls
  have zt : (textOf (allOf t.size t.data.toList false)).size ≤ 4 * t.size := by rw [size_list, textOf_data, htl]; exact lt
  simp only [portierelaw04_CharrefParts.j0]
  rw [if_neg (by simp), if_pos (by omega), if_pos (by omega), go _ (by omega), Option.bind_some, go _ (by omega), Option.bind_some, if_pos (by omega), go _ (by omega), Option.bind_some, if_pos (by omega)]
  congr 1
  have h := allOf_parts t.data.toList _ s.data.toList (Nat.le_refl _)
  have hL : (textOf (allOf ((s ++ (⟨#[32]⟩ : ByteArray)) ++ t).size ((s ++ (⟨#[32]⟩ : ByteArray)) ++ t).data.toList false)).data.toList = allOf s.size s.data.toList false ++ 32 :: allOf t.size t.data.toList false := by
    rw [textOf_data, size_list, hd, h, hsl, htl]
  have hR : ((textOf (allOf s.size s.data.toList false) ++ (⟨#[32]⟩ : ByteArray)) ++ textOf (allOf t.size t.data.toList false)).data.toList = allOf s.size s.data.toList false ++ 32 :: allOf t.size t.data.toList false := by
    rw [app_list, app_list, textOf_data, textOf_data]; simp
  rw [beq_iff_eq, toList_data, toList_data, hL, hR]

end Go.Proofs.Ytijjfkjihifjpaa.Pure
