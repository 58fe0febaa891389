/- At the end of a text the line is how many ends of line it has, and one: the law portierelaw02.PlaceMany, for every input. -/
import Derived.Test.YtmljfdkmijepnaaPx4
import Derived.Test.YtmljfdkmijepnaaRefPlace
namespace Go.Proofs.Ytmljfdkmijepnaa.Pure
set_option linter.unusedVariables false
set_option linter.unusedSimpArgs false
open Go Go.RowKit Go.Proofs.Ytmljfdkmijepnaa.P Go.Proofs.Ytmljfdkmijepnaa.Hand Go.Proofs.Ytmljfdkmijepnaa.Pos Go.Proofs.Ytmljfdkmijepnaa.RefPlace Go.Proofs.YtmljfdkmijepnaaW.PrintWords Go.Proofs.YtmljfdkmijepnaaW.PrintLast

theorem many_end (k : Nat) (s : ByteArray) (x n : Int) (hs : s.size ≤ 2000) (h0 : 0 ≤ x) (h1 : x ≤ 65535) (hk : 2 * s.size + 3 ≤ k) (hn : (pos s.data.toList s.size).1 = n) : portierelaw02_PlaceMany.l0 (k + 1) s x n s.size = some true := by
  have hlen := size_list s
  have hge := pos_ge s.data.toList s.size (by omega)
  rw [hn] at hge
  have w1 : wrap64 ((s.size : Int) + wrap64 x) = s.size + x := by rw [wrap64_id (x := x)]; rw [wrap64_id] <;> omega; all_goals omega
  have w2 : wrap64 (-(wrap64 x)) = -x := by rw [wrap64_id (x := x)]; rw [wrap64_id] <;> omega; all_goals omega
  have w3 : wrap64 (n + 1) = n + 1 := by rw [wrap64_id] <;> omega
  have W1 := Aside0.mk w1
  have W2 := Aside0.mk w2
  have W3 := Aside0.mk w3
  clear w1 w2 w3
  have c1 : clampAt s (s.size + x) = s.size := by
    unfold clampAt
    rw [if_neg (by omega)]
    split
    · rfl
    · omega
  have c2 : clampAt s (-x) = 0 := by
    unfold clampAt
    split
    · rfl
    · rw [if_neg (by omega)]; omega
  obtain ⟨r1, e1, F1⟩ := of_of s (n + 1) 1 (by omega) (by omega) (by omega) (by omega) k hk
  obtain ⟨r2, e2, F2⟩ := of_of s 0 1 (by omega) (by omega) (by omega) (by omega) k hk
  have f1 : r1.2 = false := by
    rcases F1 with ⟨p, _, hp, hq, _⟩ | ⟨e, _⟩
    · exfalso
      have := pos_line_le s.data.toList p s.size (by omega) (by omega)
      rw [hq, hn] at this
      simp only at this
      omega
    · rw [e]
  have f2 : r2.2 = false := by
    rcases F2 with ⟨p, _, hp, hq, _⟩ | ⟨e, _⟩
    · exfalso
      have := pos_ge s.data.toList p hp
      rw [hq] at this
      simp only at this
      omega
    · rw [e]
  have a1 := at_nat s s.size (by omega) (Nat.le_refl _)
  have a2 := at_of s (s.size + x) (by omega)
  have a3 := at_of s (-x) (by omega)
  rw [c1] at a2
  rw [c2, pos_zero] at a3
  simp only [portierelaw02_PlaceMany.l0]
  rw [if_neg (by omega), W1.out, W2.out, W3.out, a1, a2, a3, e1, e2]
  simp only [Option.bind_some]
  rw [hn, f1, f2]
  simp
theorem many_loop (s : ByteArray) (x : Int) (hs : s.size ≤ 2000) (h0 : 0 ≤ x) (h1 : x ≤ 65535) : ∀ (d k i : Nat) (n : Int), s.size - i ≤ d → d + 2 * s.size + 4 ≤ k → i ≤ s.size → (pos s.data.toList i).1 = n → portierelaw02_PlaceMany.l0 k s x n i = some true := by
  intro d
  induction d with
  | zero =>
    intro k i n hd hk hi hn
    obtain ⟨k, rfl⟩ : ∃ m, k = m + 1 := ⟨k - 1, by omega⟩
    obtain rfl : i = s.size := by omega
    exact many_end k s x n hs h0 h1 (by omega) hn
  | succ d ih =>
    intro k i n hd hk hi hn
    obtain ⟨k, rfl⟩ : ∃ m, k = m + 1 := ⟨k - 1, by omega⟩
    by_cases he : i = s.size
    · subst he
      exact many_end k s x n hs h0 h1 (by omega) hn
    · have hlt : (i : Int) < s.size := by omega
      have hl : i < s.data.toList.length := by rw [← size_list]; omega
      have hge := pos_ge s.data.toList i (by omega)
      rw [hn] at hge
      have W1 : Aside0 (wrap64 (n + 1) = n + 1) := ⟨by rw [wrap64_id] <;> omega⟩
      have W2 : Aside0 (wrap64 ((i : Int) + 1) = ((i + 1 : Nat) : Int)) := ⟨by rw [wrap64_id] <;> omega⟩
      simp only [portierelaw02_PlaceMany.l0]
      rw [if_pos hlt, if_pos (by omega), W1.out, W2.out]
      by_cases hc : bt s i = 10
      · rw [if_pos hc]
        exact ih k (i + 1) (n + 1) (by omega) (by omega) (by omega) (by rw [pos_nl _ _ hl ((bt10 s i).1 hc)]; simp only; omega)
      · rw [if_neg hc]
        refine ih k (i + 1) n (by omega) (by omega) (by omega) ?_
        rcases pos_cases s.data.toList i hl with ⟨h10, _⟩ | ⟨_, e, _, _⟩
        · exact absurd ((bt10 s i).2 h10) hc
        · omega
theorem PlaceMany : portierelaw02_PlaceMany.Pure := by
  intro a0 a1 _ hw
  simp only [Lit.wf, Bool.and_eq_true, decide_eq_true_eq] at hw
  have h0 : 0 ≤ a1 := hw.1
  have h1 : a1 ≤ 65535 := hw.2
  clear hw
  refine ⟨3 * a0.size + 30, ?_⟩
  obtain ⟨k, hk⟩ : ∃ k, k = 3 * a0.size + 29 := ⟨_, rfl⟩
  rw [show 3 * a0.size + 30 = k + 1 by omega]
  unfold portierelaw02_PlaceMany.f
  by_cases hs : (a0.size : Int) > 2000
  · rw [if_pos hs]
    simp only [portierelaw02_PlaceMany.j0]
    rw [if_pos trivial, known_true k (by omega), Option.bind_some]
  · rw [if_neg hs, known_true (k + 1) (by omega), Option.bind_some]
    simp only [portierelaw02_PlaceMany.j0]
    rw [if_neg (by simp)]
    exact many_loop a0 a1 (by omega) h0 h1 a0.size k 0 1 (by omega) (by omega) (by omega) rfl

end Go.Proofs.Ytmljfdkmijepnaa.Pure
