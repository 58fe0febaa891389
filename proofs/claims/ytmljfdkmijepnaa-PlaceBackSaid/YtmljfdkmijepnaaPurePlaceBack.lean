/- A place's line and column lead to the first place that has them: the law portierelaw02.PlaceBack, for every input. -/
import Derived.Test.YtmljfdkmijepnaaPx6
import Derived.Test.YtmljfdkmijepnaaRefPlace
namespace Go.Proofs.Ytmljfdkmijepnaa.Pure
set_option linter.unusedVariables false
set_option linter.unusedSimpArgs false
open Go Go.RowKit Go.Proofs.Ytmljfdkmijepnaa.P Go.Proofs.Ytmljfdkmijepnaa.Hand Go.Proofs.Ytmljfdkmijepnaa.Pos Go.Proofs.Ytmljfdkmijepnaa.RefPlace Go.Proofs.YtmljfdkmijepnaaW.PrintWords Go.Proofs.YtmljfdkmijepnaaW.PrintLast

theorem back_end (k : Nat) (s : ByteArray) (x : Int) (hs : s.size ≤ 2000) (hk : 2 * s.size + 3 ≤ k) (i : Nat) (hi : (mx x 0) % ((s.size : Int) + 1) = i) (hlt : i ≤ s.size) : portierelaw02_PlaceBack.j0 (k + 1) s x false = some true := by
  have hl : i ≤ s.data.toList.length := by rw [← size_list]; exact hlt
  have hge := pos_ge s.data.toList i hl
  have W : Aside0 (wrap64 ((s.size : Int) + 1) = (s.size : Int) + 1) := ⟨by rw [wrap64_id] <;> omega⟩
  obtain ⟨r, e, F⟩ := of_of s (pos s.data.toList i).1 (pos s.data.toList i).2 (by omega) (by omega) (by omega) (by omega) k hk
  obtain ⟨p, hr, hp, hpi⟩ : ∃ p : Nat, r = ((p : Int), true) ∧ p ≤ i ∧ pos s.data.toList p = pos s.data.toList i := by
    rcases F with ⟨p, h1, h2, h3, h4⟩ | ⟨_, h⟩
    · refine ⟨p, h1, ?_, h3⟩
      by_cases h : p ≤ i
      · exact h
      · exact absurd rfl (h4 i (by omega))
    · exact absurd rfl (h i hl)
  subst hr
  simp only [portierelaw02_PlaceBack.j0]
  rw [if_neg Bool.false_ne_true, W.out, if_neg (by omega), hi, at_nat s i (by omega) hlt, Option.bind_some, e, Option.bind_some, at_nat s p (by omega) (by omega), Option.bind_some, hpi, if_pos rfl, if_pos (by omega), if_pos rfl, if_pos rfl, if_pos (by omega), decide_eq_true (by omega)]
theorem PlaceBack : portierelaw02_PlaceBack.Pure := by
  intro a0 a1 _ hw
  clear hw
  refine ⟨2 * a0.size + 31, ?_⟩
  obtain ⟨k, hk⟩ : ∃ k, k = 2 * a0.size + 30 := ⟨_, rfl⟩
  rw [show 2 * a0.size + 31 = k + 1 by omega]
  unfold portierelaw02_PlaceBack.f
  by_cases hs : (a0.size : Int) > 2000
  · rw [if_pos hs]
    simp only [portierelaw02_PlaceBack.j0]
    rw [if_pos trivial, known_true k (by omega), Option.bind_some]
  · rw [if_neg hs, known_true (k + 1) (by omega), Option.bind_some]
    have h0 : 0 ≤ (mx a1 0) % ((a0.size : Int) + 1) := Int.emod_nonneg _ (by omega)
    have h1 : (mx a1 0) % ((a0.size : Int) + 1) < (a0.size : Int) + 1 := Int.emod_lt_of_pos _ (by omega)
    exact back_end k a0 a1 (by omega) (by omega) ((mx a1 0) % ((a0.size : Int) + 1)).toNat (by omega) (by omega)

end Go.Proofs.Ytmljfdkmijepnaa.Pure
