/- Written twice it comes back by reading it twice; what is written has no bare sign: the law portierelaw05.EscapeTwice, for every input. -/
import Derived.Test.YtebcdfdkgjcmmaaPx4
import Derived.Test.YtebcdfdkgjcmmaaRefEsc
namespace Go.Proofs.Ytebcdfdkgjcmmaa.Pure
set_option linter.unusedVariables false
set_option linter.unusedSimpArgs false
open Go Go.RowKit Go.Proofs.Ytebcdfdkgjcmmaa.P Go.Proofs.Ytebcdfdkgjcmmaa.Hand Go.Proofs.Ytebcdfdkgjcmmaa.EscLaws Go.Proofs.Ytebcdfdkgjcmmaa.RefEsc Go.Proofs.YtebcdfdkgjcmmaaW.PrintWords Go.Proofs.YtebcdfdkgjcmmaaW.PrintLast

theorem at_of (a : ByteArray) (i : Nat) (hi : i < a.size) : ∃ c, a.data.toList[i]? = some c ∧ bt a i = (c.toNat : Int) := by
  have hl : i < a.data.toList.length := by rw [← size_list]; exact hi
  refine ⟨a.data.toList[i], List.getElem?_eq_getElem hl, ?_⟩
  rw [bt_list, Int.toNat_natCast, List.getD_eq_getElem?_getD, List.getElem?_eq_getElem hl, Option.getD_some]
theorem twice_loop (a b : ByteArray) (ha : Amps a.data.toList) (hs : a.size ≤ 10000) (hb : a.size ≤ b.size) : ∀ (d i k : Nat), i + d = a.size → d + 1 ≤ k → portierelaw05_EscapeTwice.l0 k a b i = some true := by
  intro d
  induction d with
  | zero =>
    intro i k hi hk
    obtain ⟨k, rfl⟩ : ∃ m, k = m + 1 := ⟨k - 1, by omega⟩
    simp only [portierelaw05_EscapeTwice.l0]
    rw [if_neg (by omega), decide_eq_true (by omega)]
  | succ d ih =>
    intro i k hi hk
    obtain ⟨k, rfl⟩ : ∃ m, k = m + 1 := ⟨k - 1, by omega⟩
    have W : Aside0 (wrap64 ((i : Int) + 1) = ((i + 1 : Nat) : Int)) := ⟨by rw [wrap64_id] <;> omega⟩
    have W3 : Aside0 (wrap64 ((i : Int) + 3) = ((i + 3 : Nat) : Int)) := ⟨by rw [wrap64_id] <;> omega⟩
    obtain ⟨c, hc, hbt⟩ := at_of a i (by omega)
    have hnext := ih (i + 1) k (by omega) (by omega)
    simp only [portierelaw05_EscapeTwice.l0]
    rw [if_pos (by omega), if_pos (by omega), hbt, W.out, W3.out]
    by_cases h38 : c = 38
    · rw [if_pos ((toNat_iff c 38 38 rfl).2 h38)]
      rw [h38] at hc
      obtain ⟨h1, h2⟩ := ha i hc
      rw [← size_list] at h1
      rw [if_neg (by omega), if_pos (by omega), if_pos (by omega)]
      obtain ⟨e, he, hbe⟩ := at_of a (i + 1) (by omega)
      rw [hbe]
      rw [he] at h2
      by_cases e1 : (e.toNat : Int) = 97
      · rw [if_pos e1]; exact hnext
      · rw [if_neg e1]
        by_cases e2 : (e.toNat : Int) = 108
        · rw [if_pos e2]; exact hnext
        · rw [if_neg e2]
          by_cases e3 : (e.toNat : Int) = 103
          · rw [if_pos e3]; exact hnext
          · rw [if_neg e3]
            have e4 : e = 110 := by
              rcases h2 with h | h | h | h
              · exact absurd ((toNat_iff e 97 97 rfl).2 (Option.some.inj h)) e1
              · exact absurd ((toNat_iff e 108 108 rfl).2 (Option.some.inj h)) e2
              · exact absurd ((toNat_iff e 103 103 rfl).2 (Option.some.inj h)) e3
              · exact Option.some.inj h
            rw [if_pos ((toNat_iff e 110 110 rfl).2 e4)]
            exact hnext
    · rw [if_neg (fun h => h38 ((toNat_iff c 38 38 rfl).1 h))]
      exact hnext
theorem twice_end (k : Nat) (s : ByteArray) (hs : s.size ≤ 500) (hk : 6 * s.size + 1 ≤ k) : portierelaw05_EscapeTwice.j0 (k + 1) s false = some true := by
  have e1 : (escB false s).size ≤ 6 * s.size := by rw [escB_size, size_list]; exact (esc_len false s.data.toList).2
  have e2 : (escB false s).size ≤ (escB false (escB false s)).size := by rw [escB_size false (escB false s), size_list]; exact (esc_len false _).1
  have hA : Amps (escB false s).data.toList := by rw [escB_list]; exact esc_amps _
  have h := twice_loop (escB false s) (escB false (escB false s)) hA (by omega) e2 (escB false s).size 0 k (by omega) (by omega)
  simp only [portierelaw05_EscapeTwice.j0]
  rw [if_neg Bool.false_ne_true, text_of s (by omega), Option.bind_some, text_of _ (by omega), Option.bind_some]
  exact h
theorem twice_known (k : Nat) (s : ByteArray) : portierelaw05_EscapeTwice.j0 (k + 1) s true = some true := by
  simp only [portierelaw05_EscapeTwice.j0]
  rw [if_pos trivial, known_true, Option.bind_some]
theorem EscapeTwice : portierelaw05_EscapeTwice.Pure := by
  intro a0 hw
  clear hw
  refine ⟨6 * a0.size + 1 + 1, ?_⟩
  unfold portierelaw05_EscapeTwice.f
  by_cases hs : (a0.size : Int) > 500
  · rw [if_pos hs]
    exact twice_known _ a0
  · rw [if_neg hs, known_true, Option.bind_some]
    exact twice_end _ a0 (by omega) (Nat.le_refl _)

end Go.Proofs.Ytebcdfdkgjcmmaa.Pure
