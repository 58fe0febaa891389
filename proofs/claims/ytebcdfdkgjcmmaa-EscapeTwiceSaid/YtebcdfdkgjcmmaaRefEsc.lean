/- The document's answer for what is written (portiereref05) is EscSpec's, and the program's too. -/
import Derived.Test.YtebcdfdkgjcmmaaPx3
import Derived.Test.YtebcdfdkgjcmmaaPx3
import Derived.Test.YtebcdfdkgjcmmaaEscLaws
namespace Go.Proofs.Ytebcdfdkgjcmmaa.RefEsc
set_option linter.unusedVariables false
set_option linter.unusedSimpArgs false
open Go Go.RowKit Go.Proofs.Ytebcdfdkgjcmmaa.P Go.Proofs.Ytebcdfdkgjcmmaa.Hand Go.Proofs.Ytebcdfdkgjcmmaa.EscLaws Go.Proofs.YtebcdfdkgjcmmaaW.PrintWords Go.Proofs.YtebcdfdkgjcmmaaW.PrintLast Go.Proofs.YtebcdfdkgjcmmaaW.PrintMore

theorem text_of (s : ByteArray) (h : s.size ≤ 1048576) : escape_Text.f s = some (escB false s) := by unfold escape_Text.f; rw [if_pos h]; rfl
theorem value_of (s : ByteArray) (h : s.size ≤ 1048576) : escape_Value.f s = some (escB true s) := by unfold escape_Value.f; rw [if_pos h]; rfl
theorem known_true : portierelaw05_known.f = some true := by
  unfold portierelaw05_known.f
  simp only [toList_data]
  kernel_rfl
theorem bt_drop {s : ByteArray} {i : Nat} {c : UInt8} {l : List UInt8} (h : s.data.toList.drop i = c :: l) : bt s i = (c.toNat : Int) ∧ i < s.size ∧ s.data.toList.drop (i + 1) = l := by
  have hi : i < s.data.toList.length := by
    rcases Nat.lt_or_ge i s.data.toList.length with h1 | h1
    · exact h1
    · rw [List.drop_of_length_le h1] at h; cases h
  rw [List.drop_eq_getElem_cons hi] at h
  injection h with h1 h2
  refine ⟨?_, by rw [size_list]; exact hi, h2⟩
  rw [bt_list, Int.toNat_natCast, List.getD_eq_getElem?_getD, List.getElem?_eq_getElem hi, Option.getD_some, h1]
theorem toNat_iff (c d : UInt8) (n : Int) (hn : (d.toNat : Int) = n) : ((c.toNat : Int) = n) ↔ c = d := by
  constructor
  · intro h
    apply UInt8.toNat_inj.1
    omega
  · rintro rfl
    exact hn
theorem cut_one (s : ByteArray) (i : Nat) (c : UInt8) (l : List UInt8) (h : s.data.toList.drop i = c :: l) : (s.extract i (i + 1)).data.toList = [c] := by
  rw [ext_list, h, show i + 1 - i = 1 by omega]; rfl

set_option maxHeartbeats 400000 in
theorem ref_written (s : ByteArray) (q : Bool) (hs : s.size ≤ 1048576) : ∀ (n : Nat) (l : List UInt8), l.length ≤ n → ∀ (i : Nat) (out : ByteArray) (k : Nat), s.data.toList.drop i = l → i + l.length = s.size → out.size ≤ 6 * i → 2 * l.length + 1 ≤ k →
    ∃ r, portiereref05_written.l0 k s q out i = some r ∧ r.data.toList = out.data.toList ++ escL q l := by
  intro n
  induction n with
  | zero =>
    intro l hl i out k hd hi ho hk
    have : l = [] := List.eq_nil_of_length_eq_zero (by omega)
    subst this
    obtain ⟨k, rfl⟩ : ∃ m, k = m + 1 := ⟨k - 1, by omega⟩
    simp only [portiereref05_written.l0]
    rw [if_neg (by simp at hi; omega)]
    exact ⟨out, rfl, by simp [escL]⟩
  | succ n ih =>
    intro l hl i out k hd hi ho hk
    cases l with
    | nil =>
      obtain ⟨k, rfl⟩ : ∃ m, k = m + 1 := ⟨k - 1, by omega⟩
      simp only [portiereref05_written.l0]
      rw [if_neg (by simp at hi; omega)]
      exact ⟨out, rfl, by simp [escL]⟩
    | cons c l =>
      obtain ⟨k, rfl⟩ : ∃ m, k = m + 2 := ⟨k - 2, by simp at hk; omega⟩
      simp only [List.length_cons] at hl hi hk
      obtain ⟨hb, hlt, hd1⟩ := bt_drop hd
      have hcut := cut_one s i c l hd
      have hw : Aside0 (wrap64 ((i : Int) + 1) = ((i + 1 : Nat) : Int)) := ⟨by rw [wrap64_id] <;> omega⟩
      -- what follows one byte that is written as 'x'
      have go1 : ∀ (x : ByteArray) (kk : Nat), x.size ≤ 6 → 2 * l.length + 1 ≤ kk → ∃ r, portiereref05_written.l0 kk s q (out ++ x) ((i + 1 : Nat) : Int) = some r ∧ r.data.toList = (out.data.toList ++ x.data.toList) ++ escL q l := by
        intro x kk hx hkk
        have := ih l (by omega) (i + 1) (out ++ x) kk hd1 (by omega) (by rw [ByteArray.size_append]; omega) hkk
        rw [app_list] at this
        exact this
      obtain ⟨k1, hk1⟩ : ∃ k1, k1 = k + 1 := ⟨_, rfl⟩
      rw [show k + 2 = k1 + 1 by omega]
      simp only [portiereref05_written.l0]
      rw [if_pos (by omega), if_pos (by omega), hw.out, if_pos (by omega), if_pos (by omega), hb]
      by_cases c1 : c = 38
      · rw [if_pos ((toNat_iff c 38 38 rfl).2 c1), if_pos (by omega)]
        obtain ⟨r, h1, h2⟩ := go1 ampB k1 (by decide) (by omega)
        refine ⟨r, h1, ?_⟩
        rw [h2, escL_special q c l (by rw [c1]; cases q <;> decide), c1, List.append_assoc]
        rfl
      · rw [if_neg (fun h => c1 ((toNat_iff c 38 38 rfl).1 h))]
        by_cases c2 : c = 60
        · rw [if_pos ((toNat_iff c 60 60 rfl).2 c2), if_pos (by omega)]
          obtain ⟨r, h1, h2⟩ := go1 ltB k1 (by decide) (by omega)
          refine ⟨r, h1, ?_⟩
          rw [h2, escL_special q c l (by rw [c2]; cases q <;> decide), c2, List.append_assoc]
          rfl
        · rw [if_neg (fun h => c2 ((toNat_iff c 60 60 rfl).1 h))]
          by_cases c3 : c = 62
          · rw [if_pos ((toNat_iff c 62 62 rfl).2 c3), if_pos (by omega)]
            obtain ⟨r, h1, h2⟩ := go1 gtB k1 (by decide) (by omega)
            refine ⟨r, h1, ?_⟩
            rw [h2, escL_special q c l (by rw [c3]; cases q <;> decide), c3, List.append_assoc]
            rfl
          · rw [if_neg (fun h => c3 ((toNat_iff c 62 62 rfl).1 h))]
            -- the rest, a quote not being written otherwise
            have rest : special q c = false → ∃ r, portiereref05_written.j1 k1 s q out i 1 (s.extract (i : Int).toNat (((i + 1 : Nat) : Int)).toNat) false = some r ∧ r.data.toList = out.data.toList ++ escL q (c :: l) := by
              intro hsp
              rw [hk1]
              simp only [portiereref05_written.j1]
              rw [if_neg Bool.false_ne_true, if_pos (by omega), if_pos (by omega), hb, hw.out, Int.toNat_natCast, Int.toNat_natCast]
              have hcz : (s.extract i (i + 1)).size = 1 := by rw [size_list, hcut]; rfl
              have plain : ¬ (c = 194 ∧ l.head? = some 160) → ∃ r, (if out.size + (s.extract i (i + 1)).size ≤ 9223372036854775807 then portiereref05_written.l0 k s q (out ++ s.extract i (i + 1)) ((i + 1 : Nat) : Int) else none) = some r ∧ r.data.toList = out.data.toList ++ escL q (c :: l) := by
                intro hno
                rw [if_pos (by omega)]
                obtain ⟨r, h1, h2⟩ := go1 (s.extract i (i + 1)) k (by omega) (by omega)
                refine ⟨r, h1, ?_⟩
                rw [h2, hcut, escL_plain q c l hsp hno, List.append_assoc]
                rfl
              by_cases c4 : c = 194
              · rw [if_pos ((toNat_iff c 194 194 rfl).2 c4)]
                cases l with
                | nil =>
                  rw [if_neg (by simp at hi; omega)]
                  exact plain (by simp)
                | cons d l =>
                  obtain ⟨hb2, hlt2, hd2⟩ := bt_drop hd1
                  simp only [List.length_cons] at hi hk hl
                  rw [if_pos (by omega), if_pos (by omega), hb2]
                  by_cases c5 : d = 160
                  · have hw2 : Aside0 (wrap64 ((i : Int) + 2) = ((i + 2 : Nat) : Int)) := ⟨by rw [wrap64_id] <;> omega⟩
                    rw [if_pos ((toNat_iff d 160 160 rfl).2 c5), if_pos (by omega), hw2.out]
                    obtain ⟨r, h1, h2⟩ := ih l (by omega) (i + 2) (out ++ nbspB) k hd2 (by omega) (by rw [ByteArray.size_append]; have : nbspB.size = 6 := rfl; omega) (by omega)
                    refine ⟨r, h1, ?_⟩
                    rw [h2, app_list, c4, c5, escL_nbsp, List.append_assoc]
                  · rw [if_neg (fun h => c5 ((toNat_iff d 160 160 rfl).1 h))]
                    exact plain (by simp [c5])
              · rw [if_neg (fun h => c4 ((toNat_iff c 194 194 rfl).1 h))]
                exact plain (fun h => c4 h.1)
            by_cases c6 : c = 34
            · rw [if_pos ((toNat_iff c 34 34 rfl).2 c6)]
              cases q with
              | false => exact rest (by rw [c6]; decide)
              | true =>
                rw [hk1]
                simp only [portiereref05_written.j1]
                rw [if_pos trivial, if_pos (by omega), hw.out]
                obtain ⟨r, h1, h2⟩ := go1 quotB k (by decide) (by omega)
                refine ⟨r, h1, ?_⟩
                rw [h2, escL_special true c l (by rw [c6]; decide), c6, List.append_assoc]
                rfl
            · rw [if_neg (fun h => c6 ((toNat_iff c 34 34 rfl).1 h))]
              refine rest ?_
              unfold special
              simp [c1, c2, c3, c6]
theorem ref_esc (s : ByteArray) (q : Bool) (hs : s.size ≤ 1048576) (k : Nat) (hk : 2 * s.size + 1 ≤ k) : portiereref05_written.f k s q = some (escB q s) := by
  obtain ⟨r, h1, h2⟩ := ref_written s q hs s.size s.data.toList (by rw [← size_list]; exact Nat.le_refl _) 0 ⟨#[]⟩ k rfl (by rw [← size_list]; omega) (by decide) (by rw [← size_list]; exact hk)
  unfold portiereref05_written.f
  have e : ((0 : Nat) : Int) = 0 := rfl
  rw [e] at h1
  rw [h1]
  congr 1
  apply bytes_ext
  rw [h2, escB_list]
  rfl
theorem ref_text (s : ByteArray) (hs : s.size ≤ 1048576) (k : Nat) (hk : 2 * s.size + 1 ≤ k) : portiereref05_Text.f k s = some (escB false s) := by
  unfold portiereref05_Text.f
  rw [ref_esc s false hs k hk, Option.bind_some]
theorem ref_value (s : ByteArray) (hs : s.size ≤ 1048576) (k : Nat) (hk : 2 * s.size + 1 ≤ k) : portiereref05_Value.f k s = some (escB true s) := by
  unfold portiereref05_Value.f
  rw [ref_esc s true hs k hk, Option.bind_some]
end Go.Proofs.Ytebcdfdkgjcmmaa.RefEsc
