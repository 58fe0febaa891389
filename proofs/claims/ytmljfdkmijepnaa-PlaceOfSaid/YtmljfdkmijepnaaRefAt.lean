/- The document's At and Of (portiereref02) are what Pos says. -/
import Derived.Test.YtmljfdkmijepnaaPx5
import Derived.Test.YtmljfdkmijepnaaRefPlace
namespace Go.Proofs.Ytmljfdkmijepnaa.RefPlace
set_option linter.unusedVariables false
set_option linter.unusedSimpArgs false
open Go Go.RowKit Go.Proofs.Ytmljfdkmijepnaa.P Go.Proofs.Ytmljfdkmijepnaa.Hand Go.Proofs.Ytmljfdkmijepnaa.Pos Go.Proofs.YtmljfdkmijepnaaW.PrintWords Go.Proofs.YtmljfdkmijepnaaW.PrintLast

theorem ref_loop (s : ByteArray) (m : Nat) (hm : m ≤ s.size) (hs : s.size ≤ 140737488351232) : ∀ (d k i : Nat), m - i ≤ d → d + 1 ≤ k → i ≤ m → portiereref02_At.l0 k s m (pos s.data.toList i).1 (pos s.data.toList i).2 i = some (pos s.data.toList m) := by
  intro d
  induction d with
  | zero =>
    intro k i hd hk hi
    obtain ⟨k, rfl⟩ : ∃ m, k = m + 1 := ⟨k - 1, by omega⟩
    obtain rfl : i = m := by omega
    simp only [portiereref02_At.l0]
    rw [if_neg (by omega)]
  | succ d ih =>
    intro k i hd hk hi
    obtain ⟨k, rfl⟩ : ∃ m, k = m + 1 := ⟨k - 1, by omega⟩
    by_cases he : i = m
    · subst he
      simp only [portiereref02_At.l0]
      rw [if_neg (by omega)]
    · have hl : i < s.data.toList.length := by rw [← size_list]; omega
      have hge := pos_ge s.data.toList i (by omega)
      have hi2 : i < s.size := by omega
      have W : Aside0 (wrap64 ((i : Int) + 1) = ((i + 1 : Nat) : Int)) := ⟨by rw [wrap64_id] <;> omega⟩
      have W1 : Aside0 (wrap64 ((pos s.data.toList i).1 + 1) = (pos s.data.toList i).1 + 1) := ⟨by rw [wrap64_id] <;> omega⟩
      have W2 : Aside0 (wrap64 ((pos s.data.toList i).2 + 1) = (pos s.data.toList i).2 + 1) := ⟨by rw [wrap64_id] <;> omega⟩
      have hcore := bt_list s i
      rw [Int.toNat_natCast] at hcore
      have hbb : begB (s.data.toList.getD i 0) = (decide (bt s i < 128) || decide (191 < bt s i)) := by rw [hcore]; rfl
      have h := ih k (i + 1) (by omega) (by omega) (by omega)
      simp only [portiereref02_At.l0]
      rw [if_pos (by omega), if_pos (by omega), if_pos (by omega), W.out, W1.out, W2.out]
      by_cases hc : bt s i = 10
      · rw [pos_nl _ _ hl ((bt10 s i).1 hc)] at h
        rw [if_pos hc]
        exact h
      · have hc' : s.data.toList.getD i 0 ≠ 10 := fun h => hc ((bt10 s i).2 h)
        rw [if_neg hc]
        by_cases h1 : bt s i < 128
        · rw [pos_beg _ _ hl hc' (by rw [hbb, decide_eq_true (p := bt s i < 128) h1]; simp)] at h
          rw [if_pos h1]
          exact h
        · rw [if_neg h1]
          by_cases h2 : bt s i > 191
          · rw [pos_beg _ _ hl hc' (by rw [hbb, decide_eq_true (p := 191 < bt s i) h2]; simp)] at h
            rw [if_pos h2]
            exact h
          · rw [pos_mid _ _ hl hc' (by rw [hbb, decide_eq_false h1, decide_eq_false (p := 191 < bt s i) h2]; rfl)] at h
            rw [if_neg h2]
            exact h
theorem ref_at (s : ByteArray) (i : Int) (hs : s.size ≤ 140737488351232) (k : Nat) (hk : s.size + 1 ≤ k) : portiereref02_At.f k s i = some (pos s.data.toList (clampAt s i)) := by
  have hc : clampAt s i ≤ s.size := by unfold clampAt; split; · omega
                                       split <;> omega
  have e : mx (mn i (s.size : Int)) 0 = (clampAt s i : Int) := by
    unfold clampAt mx mn
    repeat' split
    all_goals omega
  unfold portiereref02_At.f
  rw [e]
  exact ref_loop s (clampAt s i) hc hs s.size k 0 (by omega) hk (Nat.zero_le _)
theorem ref_nat (s : ByteArray) (i : Nat) (hs : s.size ≤ 140737488351232) (hi : i ≤ s.size) (k : Nat) (hk : s.size + 1 ≤ k) : portiereref02_At.f k s i = some (pos s.data.toList i) := by
  rw [ref_at s i hs k hk]
  unfold clampAt
  rw [if_neg (by omega), if_neg (by omega), Int.toNat_natCast]
theorem ref_of (s : ByteArray) (line col : Int) (hs : s.size ≤ 140737488351232) : ∀ (d k i : Nat), s.size + 1 - i ≤ d → d + s.size + 2 ≤ k → i ≤ s.size + 1 → (∀ j, j < i → pos s.data.toList j ≠ (line, col)) →
    ∃ r, portiereref02_Of.l0 k s line col i = some r ∧ First s.data.toList line col r := by
  intro d
  induction d with
  | zero =>
    intro k i hd hk hi hj
    obtain ⟨k, rfl⟩ : ∃ m, k = m + 1 := ⟨k - 1, by omega⟩
    refine ⟨(0, false), ?_, .inr ⟨rfl, fun j hjl => hj j (by rw [← size_list] at hjl; omega)⟩⟩
    simp only [portiereref02_Of.l0]
    rw [if_neg (by omega)]
  | succ d ih =>
    intro k i hd hk hi hj
    obtain ⟨k, rfl⟩ : ∃ m, k = m + 1 := ⟨k - 1, by omega⟩
    by_cases he : i = s.size + 1
    · refine ⟨(0, false), ?_, .inr ⟨rfl, fun j hjl => hj j (by rw [← size_list] at hjl; omega)⟩⟩
      simp only [portiereref02_Of.l0]
      rw [if_neg (by omega)]
    · have W : Aside0 (wrap64 ((i : Int) + 1) = ((i + 1 : Nat) : Int)) := ⟨by rw [wrap64_id] <;> omega⟩
      simp only [portiereref02_Of.l0]
      rw [if_pos (by omega), ref_nat s i hs (by omega) k (by omega), Option.bind_some, W.out]
      by_cases h1 : pos s.data.toList i = (line, col)
      · refine ⟨((i : Int), true), ?_, .inl ⟨i, rfl, by rw [← size_list]; omega, h1, hj⟩⟩
        rw [h1, if_pos rfl, if_pos rfl]
      · obtain ⟨r, hr, hF⟩ := ih k (i + 1) (by omega) (by omega) (by omega) (fun j hja => by
          by_cases hje : j = i
          · rw [hje]; exact h1
          · exact hj j (by omega))
        refine ⟨r, ?_, hF⟩
        by_cases h2 : (pos s.data.toList i).1 = line
        · rw [if_pos h2]
          by_cases h3 : (pos s.data.toList i).2 = col
          · exact absurd (Prod.ext h2 h3) h1
          · rw [if_neg h3]; exact hr
        · rw [if_neg h2]; exact hr

end Go.Proofs.Ytmljfdkmijepnaa.RefPlace
