/- Lines and columns along a text, and where a line begins: no program in sight. -/
import Derived.Test.YtmljfdkmijepnaaHandPlace
namespace Go.Proofs.Ytmljfdkmijepnaa.Pos
set_option linter.unusedVariables false
set_option linter.unusedSimpArgs false
open Go Go.RowKit Go.Proofs.Ytmljfdkmijepnaa.Hand Go.Proofs.YtmljfdkmijepnaaW.PrintWords

/-- The line and the column of a place. -/
def pos (l : List UInt8) (i : Nat) : Int × Int := posOf (l.take i)
theorem pos_zero (l : List UInt8) : pos l 0 = (1, 1) := rfl
theorem pos_succ (l : List UInt8) (i : Nat) (h : i < l.length) : pos l (i + 1) = posStep (pos l i) (l.getD i 0) := by
  unfold pos posOf
  rw [List.take_add_one, List.foldl_append, List.getElem?_eq_getElem h, List.getD_eq_getElem?_getD, List.getElem?_eq_getElem h]
  rfl
theorem pos_nl (l : List UInt8) (i : Nat) (h : i < l.length) (hc : l.getD i 0 = 10) : pos l (i + 1) = ((pos l i).1 + 1, 1) := by
  rw [pos_succ l i h, hc]
  rfl
theorem pos_beg (l : List UInt8) (i : Nat) (h : i < l.length) (hc : l.getD i 0 ≠ 10) (hb : begB (l.getD i 0) = true) : pos l (i + 1) = ((pos l i).1, (pos l i).2 + 1) := by
  rw [pos_succ l i h]
  unfold posStep
  rw [if_neg hc, if_pos hb]
theorem pos_mid (l : List UInt8) (i : Nat) (h : i < l.length) (hc : l.getD i 0 ≠ 10) (hb : begB (l.getD i 0) = false) : pos l (i + 1) = pos l i := by
  rw [pos_succ l i h]
  unfold posStep
  rw [if_neg hc, if_neg (by rw [hb]; simp)]
theorem pos_cases (l : List UInt8) (i : Nat) (h : i < l.length) : (l.getD i 0 = 10 ∧ pos l (i + 1) = ((pos l i).1 + 1, 1)) ∨ (l.getD i 0 ≠ 10 ∧ (pos l (i + 1)).1 = (pos l i).1 ∧ (pos l i).2 ≤ (pos l (i + 1)).2 ∧ (pos l (i + 1)).2 ≤ (pos l i).2 + 1) := by
  by_cases hc : l.getD i 0 = 10
  · exact .inl ⟨hc, pos_nl l i h hc⟩
  · refine .inr ⟨hc, ?_⟩
    cases hb : begB (l.getD i 0) with
    | true => rw [pos_beg l i h hc hb]; exact ⟨rfl, by simp only; omega, by simp only; omega⟩
    | false => rw [pos_mid l i h hc hb]; exact ⟨rfl, by omega, by omega⟩
theorem pos_ge (l : List UInt8) : ∀ i, i ≤ l.length → 1 ≤ (pos l i).1 ∧ 1 ≤ (pos l i).2 ∧ (pos l i).1 ≤ i + 1 ∧ (pos l i).2 ≤ i + 1 := by
  intro i
  induction i with
  | zero => intro _; rw [pos_zero]; simp
  | succ i ih =>
    intro h
    obtain ⟨h1, h2, h3, h4⟩ := ih (by omega)
    rcases pos_cases l i (by omega) with ⟨_, e⟩ | ⟨_, e1, e2, e3⟩
    · rw [e]; simp only; omega
    · omega
theorem pos_le (l : List UInt8) (i : Nat) : ∀ d, i + d ≤ l.length → (pos l i).1 < (pos l (i + d)).1 ∨ ((pos l i).1 = (pos l (i + d)).1 ∧ (pos l i).2 ≤ (pos l (i + d)).2) := by
  intro d
  induction d with
  | zero => intro _; exact .inr ⟨rfl, Int.le_refl _⟩
  | succ d ih =>
    intro h
    have ih := ih (by omega)
    rcases pos_cases l (i + d) (by omega) with ⟨_, e⟩ | ⟨_, e1, e2, e3⟩
    · have : pos l (i + (d + 1)) = ((pos l (i + d)).1 + 1, 1) := e
      rw [this]
      simp only
      omega
    · have e1' : (pos l (i + (d + 1))).1 = (pos l (i + d)).1 := e1
      have e2' : (pos l (i + d)).2 ≤ (pos l (i + (d + 1))).2 := e2
      omega
theorem pos_line_le (l : List UInt8) (i j : Nat) (hij : i ≤ j) (hj : j ≤ l.length) : (pos l i).1 ≤ (pos l j).1 := by
  have := pos_le l i (j - i) (by omega)
  rw [show i + (j - i) = j by omega] at this
  omega
theorem pos_same (l : List UInt8) (i : Nat) : ∀ d, i + d ≤ l.length → (∀ j, i ≤ j → j < i + d → l.getD j 0 ≠ 10) → (pos l (i + d)).1 = (pos l i).1 := by
  intro d
  induction d with
  | zero => intro _ _; rfl
  | succ d ih =>
    intro h hn
    have ih := ih (by omega) (fun j h1 h2 => hn j h1 (by omega))
    rcases pos_cases l (i + d) (by omega) with ⟨e0, _⟩ | ⟨_, e1, _, _⟩
    · exact absurd e0 (hn (i + d) (by omega) (by omega))
    · have e1' : (pos l (i + (d + 1))).1 = (pos l (i + d)).1 := e1
      omega

theorem cutLine_some (l : List UInt8) : ∀ a b, cutLine l = some (a, b) → l = a ++ 10 :: b ∧ 10 ∉ a := by
  induction l with
  | nil => intro a b h; cases h
  | cons c l ih =>
    intro a b h
    unfold cutLine at h
    by_cases hc : c = 10
    · rw [if_pos hc] at h
      injection h with h
      injection h with h1 h2
      subst h1 h2 hc
      exact ⟨rfl, by simp⟩
    · rw [if_neg hc] at h
      cases hl : cutLine l with
      | none => rw [hl] at h; cases h
      | some p =>
        rw [hl] at h
        injection h with h
        injection h with h1 h2
        obtain ⟨e1, e2⟩ := ih p.1 p.2 (by rw [hl])
        subst h1 h2
        refine ⟨by rw [List.cons_append, ← e1], ?_⟩
        simp only [List.mem_cons, not_or]
        exact ⟨fun h => hc h.symm, e2⟩
theorem cutLine_none (l : List UInt8) : cutLine l = none → 10 ∉ l := by
  induction l with
  | nil => intro _; simp
  | cons c l ih =>
    intro h
    unfold cutLine at h
    by_cases hc : c = 10
    · rw [if_pos hc] at h; cases h
    · rw [if_neg hc] at h
      cases hl : cutLine l with
      | none =>
        simp only [List.mem_cons, not_or]
        exact ⟨fun h => hc h.symm, ih hl⟩
      | some p => rw [hl] at h; cases h

/-- Behind n ends of line a line begins at 'at'. -/
structure Starts (l : List UInt8) (n : Int) (at' : Nat) : Prop where
  le : at' ≤ l.length
  pos : pos l at' = (n + 1, 1)
  first : ∀ j, j < at' → (Pos.pos l j).1 < n + 1
theorem starts_zero (l : List UInt8) : Starts l 0 0 := ⟨Nat.zero_le _, rfl, fun j h => absurd h (by omega)⟩
theorem starts_next {l : List UInt8} {n : Int} {at' : Nat} (h : Starts l n at') {a b : List UInt8} (hc : cutLine (l.drop at') = some (a, b)) :
    b.length + 1 ≤ l.length - at' ∧ Starts l (n + 1) (l.length - b.length) := by
  obtain ⟨e, ha⟩ := cutLine_some _ _ _ hc
  have hl : (l.drop at').length = a.length + 1 + b.length := by rw [e]; simp; omega
  rw [List.length_drop] at hl
  have hle := h.le
  have hget : ∀ j, at' ≤ j → l.getD j 0 = (a ++ 10 :: b).getD (j - at') 0 := by
    intro j hj
    rw [← e, List.getD_eq_getElem?_getD, List.getD_eq_getElem?_getD, List.getElem?_drop, show at' + (j - at') = j by omega]
  have hna : ∀ j, at' ≤ j → j < at' + a.length → l.getD j 0 ≠ 10 := by
    intro j h1 h2 h3
    rw [hget j h1, List.getD_eq_getElem?_getD, List.getElem?_append_left (by omega), List.getElem?_eq_getElem (by omega), Option.getD_some] at h3
    exact ha (h3 ▸ List.getElem_mem _)
  have h10 : l.getD (at' + a.length) 0 = 10 := by
    rw [hget _ (by omega), show at' + a.length - at' = a.length by omega, List.getD_eq_getElem?_getD, List.getElem?_append_right (Nat.le_refl _)]
    simp
  have hs := pos_same l at' a.length (by omega) hna
  have hp := h.pos
  refine ⟨by omega, by omega, ?_, ?_⟩
  · rw [show l.length - b.length = at' + a.length + 1 by omega, pos_nl l _ (by omega) h10, hs, hp]
  · intro j hj
    by_cases hja : j < at'
    · have := h.first j hja
      omega
    · have := pos_same l at' (j - at') (by omega) (fun i h1 h2 => hna i h1 (by omega))
      rw [show at' + (j - at') = j by omega, hp] at this
      simp only at this
      omega
theorem starts_last {l : List UInt8} {n : Int} {at' : Nat} (h : Starts l n at') (hc : cutLine (l.drop at') = none) : ∀ j, j ≤ l.length → (pos l j).1 ≤ n + 1 := by
  have hn := cutLine_none _ hc
  intro j hj
  by_cases hja : j < at'
  · have := h.first j hja
    omega
  · have := pos_same l at' (j - at') (by omega) (fun i h1 h2 h3 => hn (by
      rw [List.mem_iff_getElem]
      refine ⟨i - at', by rw [List.length_drop]; omega, ?_⟩
      rw [List.getElem_drop]
      rw [List.getD_eq_getElem?_getD, List.getElem?_eq_getElem (by omega), Option.getD_some] at h3
      simp only [show at' + (i - at') = i by omega]
      exact h3))
    rw [show at' + (j - at') = j by omega, h.pos] at this
    simp only at this
    omega
/-- The first place that has this line and column; (0, false): there is none. -/
def First (l : List UInt8) (line col : Int) (r : Int × Bool) : Prop :=
  (∃ p : Nat, r = ((p : Int), true) ∧ p ≤ l.length ∧ pos l p = (line, col) ∧ ∀ j, j < p → pos l j ≠ (line, col)) ∨ (r = (0, false) ∧ ∀ j, j ≤ l.length → pos l j ≠ (line, col))
theorem first_unique {l : List UInt8} {line col : Int} {r r' : Int × Bool} (h : First l line col r) (h' : First l line col r') : r = r' := by
  rcases h with ⟨p, e, h1, h2, h3⟩ | ⟨e, h1⟩ <;> rcases h' with ⟨p', e', h1', h2', h3'⟩ | ⟨e', h1'⟩
  · have : p = p' := by
      rcases Nat.lt_trichotomy p p' with h | h | h
      · exact absurd h2 (h3' p h)
      · exact h
      · exact absurd h2' (h3 p' h)
    rw [e, e', this]
  · exact absurd h2 (h1' p h1)
  · exact absurd h2' (h1 p' h1')
  · rw [e, e']

end Go.Proofs.Ytmljfdkmijepnaa.Pos
