/- The later of two places has no lesser line, and in the same line no lesser column: the law portierelaw02.PlaceOrder, for every input. -/
import Derived.Test.YtmljfdkmijepnaaPx6
import Derived.Test.YtmljfdkmijepnaaRefPlace
namespace Go.Proofs.Ytmljfdkmijepnaa.Pure
set_option linter.unusedVariables false
set_option linter.unusedSimpArgs false
open Go Go.RowKit Go.Proofs.Ytmljfdkmijepnaa.P Go.Proofs.Ytmljfdkmijepnaa.Hand Go.Proofs.Ytmljfdkmijepnaa.Pos Go.Proofs.Ytmljfdkmijepnaa.RefPlace Go.Proofs.YtmljfdkmijepnaaW.PrintWords Go.Proofs.YtmljfdkmijepnaaW.PrintLast

theorem order_end (k : Nat) (s : ByteArray) (x y : Int) (hs : s.size ≤ 2000) (x0 : 0 ≤ x) (x1 : x ≤ 65535) (y0 : 0 ≤ y) (y1 : y ≤ 65535) : portierelaw02_PlaceOrder.j0 (k + 1) s x y false = some true := by
  have A1 : Aside0 (wrap64 x = x) := ⟨by rw [wrap64_id] <;> omega⟩
  have A2 : Aside0 (wrap64 y = y) := ⟨by rw [wrap64_id] <;> omega⟩
  have A3 : Aside0 (wrap64 ((s.size : Int) + 1) = s.size + 1) := ⟨by rw [wrap64_id] <;> omega⟩
  obtain ⟨a, ha⟩ : ∃ a : Nat, Int.tmod x (s.size + 1) = a := by
    rw [Int.tmod_eq_emod_of_nonneg x0]
    exact ⟨(x % (s.size + 1)).toNat, by have := Int.emod_nonneg x (b := (s.size : Int) + 1) (by omega); omega⟩
  have hal : a < s.size + 1 := by
    have := Int.emod_lt_of_pos x (b := (s.size : Int) + 1) (by omega)
    rw [Int.tmod_eq_emod_of_nonneg x0] at ha
    omega
  have A4 : Aside0 (wrap64 ((s.size : Int) - a) = s.size - a) := ⟨by rw [wrap64_id] <;> omega⟩
  have A5 : Aside0 (wrap64 ((s.size : Int) - a + 1) = s.size - a + 1) := ⟨by rw [wrap64_id] <;> omega⟩
  obtain ⟨d, hd⟩ : ∃ d : Nat, Int.tmod y (s.size - a + 1) = d := by
    rw [Int.tmod_eq_emod_of_nonneg y0]
    exact ⟨(y % (s.size - a + 1)).toNat, by have := Int.emod_nonneg y (b := (s.size : Int) - a + 1) (by omega); omega⟩
  have hdl : a + d ≤ s.size := by
    have := Int.emod_lt_of_pos y (b := (s.size : Int) - a + 1) (by omega)
    rw [Int.tmod_eq_emod_of_nonneg y0] at hd
    omega
  have A6 : Aside0 (wrap64 ((a : Int) + d) = ((a + d : Nat) : Int)) := ⟨by rw [wrap64_id] <;> omega⟩
  have hle := pos_le s.data.toList a d (by rw [← size_list]; exact hdl)
  simp only [portierelaw02_PlaceOrder.j0]
  rw [if_neg Bool.false_ne_true, A1.out, A2.out, A3.out, if_neg (by omega), ha, A4.out, A5.out, if_neg (by omega), hd, A6.out, at_nat s a (by omega) (by omega), at_nat s (a + d) (by omega) hdl, Option.bind_some, Option.bind_some]
  by_cases h1 : (pos s.data.toList (a + d)).1 > (pos s.data.toList a).1
  · rw [if_pos h1]
  · rw [if_neg h1, if_pos (by omega), decide_eq_true (by omega)]
theorem PlaceOrder : portierelaw02_PlaceOrder.Pure := by
  intro a0 a1 a2 _ hw hv
  simp only [Lit.wf, Bool.and_eq_true, decide_eq_true_eq] at hw hv
  have x0 : 0 ≤ a1 := hw.1
  have x1 : a1 ≤ 65535 := hw.2
  have y0 : 0 ≤ a2 := hv.1
  have y1 : a2 ≤ 65535 := hv.2
  clear hw hv
  refine ⟨31, ?_⟩
  obtain ⟨k, hk⟩ : ∃ k, k = 30 := ⟨_, rfl⟩
  rw [show 31 = k + 1 by omega]
  unfold portierelaw02_PlaceOrder.f
  by_cases hs : (a0.size : Int) > 2000
  · rw [if_pos hs]
    simp only [portierelaw02_PlaceOrder.j0]
    rw [if_pos trivial, known_true k (by omega), Option.bind_some]
  · rw [if_neg hs, known_true (k + 1) (by omega), Option.bind_some]
    exact order_end k a0 a1 a2 (by omega) x0 x1 y0 y1

end Go.Proofs.Ytmljfdkmijepnaa.Pure
