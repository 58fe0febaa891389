/- Behind an end of line the next line begins; else a character is one column: the law portierelaw02.PlaceLines, for every input. -/
import Derived.Test.YtmljfdkmijepnaaPx6
import Derived.Test.YtmljfdkmijepnaaRefPlace
namespace Go.Proofs.Ytmljfdkmijepnaa.Pure
set_option linter.unusedVariables false
set_option linter.unusedSimpArgs false
open Go Go.RowKit Go.Proofs.Ytmljfdkmijepnaa.P Go.Proofs.Ytmljfdkmijepnaa.Hand Go.Proofs.Ytmljfdkmijepnaa.Pos Go.Proofs.Ytmljfdkmijepnaa.RefPlace Go.Proofs.YtmljfdkmijepnaaW.PrintWords Go.Proofs.YtmljfdkmijepnaaW.PrintLast

theorem lines_end (k : Nat) (s : ByteArray) (x : Int) (hs : s.size ≤ 2000) (hne : s.size ≠ 0) (i : Nat) (hi : (mx x 0) % (s.size : Int) = i) (hlt : i < s.size) : portierelaw02_PlaceLines.j0 (k + 1) s x false = some true := by
  have hl : i < s.data.toList.length := by rw [← size_list]; exact hlt
  have hge := pos_ge s.data.toList i (by omega)
  have W : Aside0 (wrap64 ((i : Int) + 1) = ((i + 1 : Nat) : Int)) := ⟨by rw [wrap64_id] <;> omega⟩
  have W1 : Aside0 (wrap64 ((pos s.data.toList i).1 + 1) = (pos s.data.toList i).1 + 1) := ⟨by rw [wrap64_id] <;> omega⟩
  have W2 : Aside0 (wrap64 ((pos s.data.toList i).2 + 1) = (pos s.data.toList i).2 + 1) := ⟨by rw [wrap64_id] <;> omega⟩
  have hb := begins_at s i
  have hcore := bt_list s i
  rw [Int.toNat_natCast] at hcore
  have hlim := (s.data.toList.getD i 0).toNat_lt
  have hbb : begB (s.data.toList.getD i 0) = (decide (bt s i < 128) || decide (191 < bt s i)) := by rw [hcore]; rfl
  simp only [portierelaw02_PlaceLines.j0]
  rw [if_neg Bool.false_ne_true, if_neg (by omega), hi, W.out, at_nat s i (by omega) (by omega), at_nat s (i + 1) (by omega) (by omega), Option.bind_some, Option.bind_some, if_pos (by omega), if_pos (by omega), W1.out, W2.out]
  by_cases hc : bt s i = 10
  · rw [if_pos hc, pos_nl _ _ hl ((bt10 s i).1 hc), if_pos rfl]
    rfl
  · have hc' : s.data.toList.getD i 0 ≠ 10 := fun h => hc ((bt10 s i).2 h)
    rw [if_neg hc]
    by_cases h1 : bt s i ≥ 128
    · rw [if_pos h1]
      by_cases h2 : bt s i ≤ 191
      · rw [if_pos h2, pos_mid _ _ hl hc' (by rw [hbb, decide_eq_false (by omega), decide_eq_false (by omega)]; rfl), if_pos rfl, beq_self_eq_true]
      · rw [if_neg h2, pos_beg _ _ hl hc' (by rw [hbb, decide_eq_true (p := 191 < bt s i) (by omega)]; simp), if_pos rfl, beq_self_eq_true]
    · rw [if_neg h1, pos_beg _ _ hl hc' (by rw [hbb, decide_eq_true (p := bt s i < 128) (by omega)]; simp), if_pos rfl, beq_self_eq_true]
theorem PlaceLines : portierelaw02_PlaceLines.Pure := by
  intro a0 a1 _ hw
  clear hw
  refine ⟨31, ?_⟩
  obtain ⟨k, hk⟩ : ∃ k, k = 30 := ⟨_, rfl⟩
  rw [show 31 = k + 1 by omega]
  have hkn : portierelaw02_known.f k = some true := known_true k (by omega)
  unfold portierelaw02_PlaceLines.f
  by_cases hs : (a0.size : Int) > 2000
  · rw [if_pos hs]
    simp only [portierelaw02_PlaceLines.j0]
    rw [if_pos trivial, hkn, Option.bind_some]
  · rw [if_neg hs]
    by_cases hz : (a0.size : Int) = 0
    · rw [if_pos hz]
      simp only [portierelaw02_PlaceLines.j0]
      rw [if_pos trivial, hkn, Option.bind_some]
    · rw [if_neg hz, known_true (k + 1) (by omega), Option.bind_some]
      have h0 : 0 ≤ (mx a1 0) % (a0.size : Int) := Int.emod_nonneg _ hz
      have h1 : (mx a1 0) % (a0.size : Int) < a0.size := Int.emod_lt_of_pos _ (by omega)
      exact lines_end k a0 a1 (by omega) (by omega) ((mx a1 0) % (a0.size : Int)).toNat (by omega) (by omega)

end Go.Proofs.Ytmljfdkmijepnaa.Pure
