/- What the program's At and Of give, in the plain words of Pos; the document's example. -/
import Derived.Test.YtmljfdkmijepnaaPx4
import Derived.Test.YtmljfdkmijepnaaPos
namespace Go.Proofs.Ytmljfdkmijepnaa.RefPlace
set_option linter.unusedVariables false
set_option linter.unusedSimpArgs false
open Go Go.RowKit Go.Proofs.Ytmljfdkmijepnaa.P Go.Proofs.Ytmljfdkmijepnaa.Hand Go.Proofs.Ytmljfdkmijepnaa.Pos Go.Proofs.YtmljfdkmijepnaaW.PrintWords Go.Proofs.YtmljfdkmijepnaaW.PrintLast

theorem at_of (s : ByteArray) (i : Int) (hs : s.size ≤ 140737488351232) : place_At.f s i = some (pos s.data.toList (clampAt s i)) := by
  unfold place_At.f pos
  rw [if_pos hs]
theorem at_nat (s : ByteArray) (i : Nat) (hs : s.size ≤ 140737488351232) (hi : i ≤ s.size) : place_At.f s i = some (pos s.data.toList i) := by
  rw [at_of s i hs]
  unfold clampAt
  rw [if_neg (by omega), if_neg (by omega), Int.toNat_natCast]
theorem begins_core (c : Int) (h0 : 0 ≤ c) (h1 : c ≤ 255) : place_begins.f c = some (decide (c < 128) || decide (191 < c)) := by
  unfold place_begins.f
  repeat' split
  all_goals (congr 1; simp_all; try omega)
theorem begins_at (s : ByteArray) (i : Nat) : place_begins.f (bt s i) = some (begB (s.data.toList.getD i 0)) := by
  rw [bt_list, Int.toNat_natCast]
  exact begins_core _ (by omega) (by have := (s.data.toList.getD i 0).toNat_lt; omega)
theorem bt10 (s : ByteArray) (i : Nat) : bt s i = 10 ↔ s.data.toList.getD i 0 = 10 := by
  rw [bt_list, Int.toNat_natCast]
  constructor
  · intro h
    exact UInt8.toNat_inj.1 (by have : (10 : UInt8).toNat = 10 := rfl; omega)
  · intro h
    rw [h]; rfl

set_option maxHeartbeats 800000 in
theorem from_loop (s : ByteArray) (line x : Int) (hs : s.size ≤ 140737488351232) : ∀ (d : Nat) (k at' n : Nat), s.size - at' ≤ d → d + 1 ≤ k → Starts s.data.toList n at' → n ≤ at' →
    ((n : Int) ≤ x ∨ n = 0) →
    (∃ (p m : Nat), place_from.l0 k s line at' x n = some ((p : Int), decide (line > 0)) ∧ Starts s.data.toList m p ∧ x ≤ m ∧ ((m : Int) = x ∨ m = 0)) ∨
    (place_from.l0 k s line at' x n = some (0, false) ∧ ∃ m : Nat, (m : Int) < x ∧ ∀ j, j ≤ s.data.toList.length → (pos s.data.toList j).1 ≤ m + 1) := by
  intro d
  induction d with
  | zero =>
    intro k at' n hd hk hS hn hx
    obtain ⟨k, rfl⟩ : ∃ m, k = m + 1 := ⟨k - 1, by omega⟩
    have hle := hS.le
    rw [← size_list] at hle
    by_cases hlt : (n : Int) < x
    · refine .inr ?_
      have hat : at' = s.size := by omega
      have hc : cutLine (s.data.toList.drop at') = none := by
        rw [List.drop_of_length_le (by rw [← size_list]; omega)]; rfl
      refine ⟨?_, n, hlt, starts_last hS hc⟩
      simp only [place_from.l0]
      rw [if_pos hlt, if_pos (by omega), if_pos (by omega)]
      unfold strings_Cut.f
      rw [if_pos ⟨rfl, by rw [size_list, Int.toNat_natCast, ext_from, List.length_drop, ← size_list]; omega⟩, Int.toNat_natCast, ext_from, hc]
      rfl
    · refine .inl ⟨at', n, ?_, hS, by omega, by omega⟩
      simp only [place_from.l0]
      rw [if_neg hlt]
  | succ d ih =>
    intro k at' n hd hk hS hn hx
    obtain ⟨k, rfl⟩ : ∃ m, k = m + 1 := ⟨k - 1, by omega⟩
    have hle := hS.le
    rw [← size_list] at hle
    by_cases hlt : (n : Int) < x
    · have hcut : strings_Cut.f (s.extract ((at' : Int)).toNat s.size) ⟨#[10]⟩ = (match cutLine (s.data.toList.drop at') with | some p => some (⟨p.1.toArray⟩, ⟨p.2.toArray⟩, true) | none => some (s.extract ((at' : Int)).toNat s.size, ⟨#[]⟩, false)) := by
        unfold strings_Cut.f
        rw [if_pos ⟨rfl, by rw [size_list, Int.toNat_natCast, ext_from, List.length_drop, ← size_list]; omega⟩, Int.toNat_natCast, ext_from]
        cases cutLine (s.data.toList.drop at') <;> rfl
      cases hc : cutLine (s.data.toList.drop at') with
      | none =>
        refine .inr ⟨?_, n, hlt, starts_last hS hc⟩
        simp only [place_from.l0]
        rw [if_pos hlt, if_pos (by omega), if_pos (by omega), hcut, hc]
        rfl
      | some p =>
        obtain ⟨a, b⟩ := p
        obtain ⟨hb, hS'⟩ := starts_next hS hc
        rw [← size_list] at hb hS'
        have hbs : (⟨b.toArray⟩ : ByteArray).size = b.length := by rw [size_list]
        have h := ih k (s.size - b.length) (n + 1) (by omega) (by omega) hS' (by omega) (by omega)
        have e : place_from.l0 (k + 1) s line at' x n = place_from.l0 k s line ((s.size - b.length : Nat) : Int) x ((n + 1 : Nat) : Int) := by
          have w1 : wrap64 ((s.size : Int) - ((⟨b.toArray⟩ : ByteArray).size : Int)) = ((s.size - b.length : Nat) : Int) := by
            rw [hbs, wrap64_id] <;> omega
          have w2 : wrap64 ((n : Int) + 1) = ((n + 1 : Nat) : Int) := by rw [wrap64_id] <;> omega
          simp only [place_from.l0]
          rw [if_pos hlt, if_pos (by omega), if_pos (by omega), hcut, hc]
          simp only [Option.bind_some]
          rw [if_pos trivial, w1, w2]
        rw [e]
        exact h
    · refine .inl ⟨at', n, ?_, hS, by omega, by omega⟩
      simp only [place_from.l0]
      rw [if_neg hlt]
/-- Where a line begins. -/
theorem from_of (s : ByteArray) (line : Int) (hs : s.size ≤ 140737488351232) (h0 : -9223372036854775808 ≤ line) (h1 : line ≤ 9223372036854775807) (k : Nat) (hk : s.size + 1 ≤ k) :
    (∃ (p : Nat), place_from.f k s line = some ((p : Int), true) ∧ Starts s.data.toList (line - 1) p) ∨ (∃ r, place_from.f k s line = some (r, false) ∧ ∀ j, j ≤ s.data.toList.length → (pos s.data.toList j).1 ≠ line) := by
  unfold place_from.f
  have hS := starts_zero s.data.toList
  have hl := from_loop s line (wrap64 (line - 1)) hs s.size k 0 0 (by omega) hk hS (Nat.le_refl _) (.inr rfl)
  by_cases hp : 1 ≤ line
  · have hw : wrap64 (line - 1) = line - 1 := by rw [wrap64_id] <;> omega
    rw [hw] at hl ⊢
    rcases hl with ⟨p, m, e, hm, hx, hy⟩ | ⟨e, m, hm, hj⟩
    · refine .inl ⟨p, ?_, ?_⟩
      · rw [show decide (line > 0) = true from decide_eq_true (by omega)] at e
        exact e
      · rw [show line - 1 = (m : Int) by omega]
        exact hm
    · refine .inr ⟨0, e, ?_⟩
      intro j hjl
      have := hj j hjl
      omega
  · refine .inr ?_
    have hn : ∀ j, j ≤ s.data.toList.length → (pos s.data.toList j).1 ≠ line := by
      intro j hjl
      have := pos_ge s.data.toList j hjl
      omega
    rcases hl with ⟨p, m, e, hm, hx, hy⟩ | ⟨e, m, hm, hj⟩
    · rw [show decide (line > 0) = false from decide_eq_false (by omega)] at e
      exact ⟨p, e, hn⟩
    · exact ⟨0, e, hn⟩
theorem of_stop (k : Nat) (s : ByteArray) (c : Int) (at' : Int) (h1 : c > 1) (h2 : at' = (s.size : Int)) : place_Of.l0 (k + 2) s c at' = some (0, false) := by
  rw [place_Of.l0, if_pos h1, if_pos h2, place_Of.j2, if_pos rfl]
theorem of_done (k : Nat) (s : ByteArray) (c : Int) (at' : Int) (h1 : ¬ c > 1) : place_Of.l0 (k + 2) s c at' = some (at', true) := by
  rw [place_Of.l0, if_neg h1]
theorem of_step (k : Nat) (s : ByteArray) (c : Int) (at' : Int) (h1 : c > 1) (h2 : at' ≠ (s.size : Int)) (h3 : 0 ≤ at') (h4 : at' < (s.size : Int)) : place_Of.l0 (k + 2) s c at' =
    if (bt s at' == 10) = true then some (0, false) else (place_begins.f (bt s at')).bind fun b => if b = true then place_Of.l0 k s (wrap64 (c - 1)) (wrap64 (at' + 1)) else place_Of.l0 k s c (wrap64 (at' + 1)) := by
  rw [place_Of.l0, if_pos h1, if_neg h2, if_pos h3, if_pos h4, place_Of.j2, if_pos h3, if_pos h4]
set_option maxHeartbeats 800000 in
theorem col_loop (s : ByteArray) (line col : Int) (hs : s.size ≤ 140737488351232) (hcol : col ≤ 9223372036854775807) : ∀ (d : Nat) (k at' : Nat) (c : Int), s.size - at' ≤ d → 2 * d + 2 ≤ k → at' ≤ s.size → 1 ≤ c →
    (pos s.data.toList at').1 = line → (pos s.data.toList at').2 + c - 1 = col → (∀ j, j < at' → pos s.data.toList j ≠ (line, col)) →
    ∃ r, place_Of.l0 k s c at' = some r ∧ First s.data.toList line col r := by
  intro d
  induction d with
  | zero =>
    intro k at' c hd hk hat hc hl hcc hj
    obtain ⟨k, rfl⟩ : ∃ m, k = m + 2 := ⟨k - 2, by omega⟩
    by_cases h1 : c > 1
    · refine ⟨(0, false), ?_, .inr ⟨rfl, ?_⟩⟩
      · exact of_stop k s c at' h1 (by omega)
      · intro j hjl
        rw [← size_list] at hjl
        by_cases hja : j < at'
        · exact hj j hja
        · rw [show j = at' by omega]
          intro he
          rw [he] at hcc
          simp only at hcc
          omega
    · refine ⟨(at', true), of_done k s c at' h1, .inl ⟨at', rfl, by rw [← size_list]; exact hat, ?_, hj⟩⟩
      exact Prod.ext hl (by simp only; omega)
  | succ d ih =>
    intro k at' c hd hk hat hc hl hcc hj
    obtain ⟨k, rfl⟩ : ∃ m, k = m + 2 := ⟨k - 2, by omega⟩
    by_cases h1 : c > 1
    · have hne : pos s.data.toList at' ≠ (line, col) := by
        intro he
        rw [he] at hcc
        simp only at hcc
        omega
      by_cases hend : at' = s.size
      · refine ⟨(0, false), ?_, .inr ⟨rfl, ?_⟩⟩
        · exact of_stop k s c at' h1 (by omega)
        · intro j hjl
          rw [← size_list] at hjl
          by_cases hja : j < at'
          · exact hj j hja
          · rw [show j = at' by omega]
            exact hne
      · have hlt : at' < s.data.toList.length := by rw [← size_list]; omega
        have hlt2 : (at' : Int) < (s.size : Int) := by omega
        have hge := pos_ge s.data.toList at' (by omega)
        by_cases h10 : s.data.toList.getD at' 0 = 10
        · refine ⟨(0, false), ?_, .inr ⟨rfl, ?_⟩⟩
          · rw [of_step k s c at' h1 (by omega) (by omega) hlt2, if_pos (by rw [(bt10 s at').2 h10]; rfl)]
          · intro j hjl
            by_cases hja : j < at'
            · exact hj j hja
            · by_cases hje : j = at'
              · rw [hje]; exact hne
              · have := pos_line_le s.data.toList (at' + 1) j (by omega) hjl
                rw [pos_nl _ _ hlt h10, hl] at this
                intro he
                rw [he] at this
                simp only at this
                omega
        · have hb10 : (bt s at' == 10) = false := beq_eq_false_iff_ne.2 (fun h => h10 ((bt10 s at').1 h))
          have W1 : Aside0 (wrap64 ((at' : Int) + 1) = ((at' + 1 : Nat) : Int)) := ⟨by rw [wrap64_id] <;> omega⟩
          have W2 : Aside0 (wrap64 (c - 1) = c - 1) := ⟨by rw [wrap64_id] <;> omega⟩
          have hj' : ∀ j, j < at' + 1 → pos s.data.toList j ≠ (line, col) := by
            intro j hja
            by_cases hje : j = at'
            · rw [hje]; exact hne
            · exact hj j (by omega)
          cases hb : begB (s.data.toList.getD at' 0) with
          | true =>
            have e := pos_beg _ _ hlt h10 hb
            obtain ⟨r, hr, hF⟩ := ih k (at' + 1) (c - 1) (by omega) (by omega) (by omega) (by omega) (by rw [e]; exact hl) (by rw [e]; simp only; omega) hj'
            refine ⟨r, ?_, hF⟩
            rw [of_step k s c at' h1 (by omega) (by omega) hlt2, hb10, if_neg Bool.false_ne_true, begins_at, hb, Option.bind_some, if_pos rfl, W1.out, W2.out]
            exact hr
          | false =>
            have e := pos_mid _ _ hlt h10 hb
            obtain ⟨r, hr, hF⟩ := ih k (at' + 1) c (by omega) (by omega) (by omega) (by omega) (by rw [e]; exact hl) (by rw [e]; exact hcc) hj'
            refine ⟨r, ?_, hF⟩
            rw [of_step k s c at' h1 (by omega) (by omega) hlt2, hb10, if_neg Bool.false_ne_true, begins_at, hb, Option.bind_some, if_neg Bool.false_ne_true, W1.out]
            exact hr
    · refine ⟨(at', true), of_done k s c at' h1, .inl ⟨at', rfl, by rw [← size_list]; exact hat, ?_, hj⟩⟩
      exact Prod.ext hl (by simp only; omega)
/-- Of is the first place of this line and column. -/
theorem of_of (s : ByteArray) (line col : Int) (hs : s.size ≤ 140737488351232) (h0 : -9223372036854775808 ≤ line) (h1 : line ≤ 9223372036854775807) (h2 : col ≤ 9223372036854775807) (k : Nat) (hk : 2 * s.size + 3 ≤ k) :
    ∃ r, place_Of.f k s line col = some r ∧ First s.data.toList line col r := by
  have hnone : ∀ r, place_from.f k s line = some (r, false) → place_Of.f k s line col = some (0, false) := by
    intro r hr
    unfold place_Of.f
    rw [hr]
    simp only [Option.bind_some]
    obtain ⟨k, rfl⟩ : ∃ m, k = m + 1 := ⟨k - 1, by omega⟩
    rw [if_neg (by simp), place_Of.j0, if_pos rfl]
  rcases from_of s line hs h0 h1 k (by omega) with ⟨p, e, hS⟩ | ⟨r, e, hn⟩
  · have hle := hS.le
    rw [← size_list] at hle
    have hp := hS.pos
    have he : place_Of.f k s line col = place_Of.j0 k s col p (decide (col < 1)) := by
      unfold place_Of.f
      rw [e]
      rw [Option.bind_some, if_pos rfl]
    rw [he]
    obtain ⟨k, rfl⟩ : ∃ m, k = m + 1 := ⟨k - 1, by omega⟩
    by_cases hc : col < 1
    · refine ⟨(0, false), by rw [place_Of.j0, if_pos (decide_eq_true hc)], .inr ⟨rfl, ?_⟩⟩
      intro j hj he
      have := pos_ge s.data.toList j hj
      rw [he] at this
      simp only at this
      omega
    · rw [place_Of.j0, if_neg (by rw [decide_eq_false hc]; simp)]
      refine col_loop s line col hs h2 s.size k p col (by omega) (by omega) hle (by omega) (by rw [hp]; simp only; omega) (by rw [hp]; simp only; omega) ?_
      intro j hj he
      have := hS.first j hj
      rw [he] at this
      simp only at this
      omega
  · refine ⟨(0, false), hnone r e, .inr ⟨rfl, ?_⟩⟩
    intro j hj he
    exact hn j hj (by rw [he])
theorem known_true (k : Nat) (hk : 20 ≤ k) : portierelaw02_known.f k = some true := by
  have h : portierelaw02_known.f 20 = some true := by
    unfold portierelaw02_known.f place_At.f
    kernel_rfl
  exact at_rounds (g := fun k => portierelaw02_known.f k) portierelaw02_known.mono hk h

end Go.Proofs.Ytmljfdkmijepnaa.RefPlace
