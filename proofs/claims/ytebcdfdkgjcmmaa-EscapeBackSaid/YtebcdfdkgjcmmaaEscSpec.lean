/- By hand: what is written for a text, on lists of bytes; what the trie must hold. -/
import Derived.Test.YtebcdfdkgjcmmaaEscLook
import Derived.Test.YtebcdfdkgjcmmaaHandBytes
namespace Go.Proofs.Ytebcdfdkgjcmmaa.Hand
set_option linter.unusedVariables false
set_option linter.unusedSimpArgs false
open Go Go.RowKit Go.Proofs.YtebcdfdkgjcmmaaW.PrintWords

def ampB : ByteArray := ⟨#[38, 97, 109, 112, 59]⟩
def ltB : ByteArray := ⟨#[38, 108, 116, 59]⟩
def gtB : ByteArray := ⟨#[38, 103, 116, 59]⟩
def nbspB : ByteArray := ⟨#[38, 110, 98, 115, 112, 59]⟩
def quotB : ByteArray := ⟨#[38, 113, 117, 111, 116, 59]⟩
def special (q : Bool) (c : UInt8) : Bool := c == 38 || c == 60 || c == 62 || (q && c == 34)
def repB (c : UInt8) : ByteArray := if c = 38 then ampB else if c = 60 then ltB else if c = 62 then gtB else quotB
def escL (q : Bool) : List UInt8 → List UInt8
  | [] => []
  | [c] => if special q c = true then (repB c).data.toList else [c]
  | c :: d :: l => if c = 194 ∧ d = 160 then nbspB.data.toList ++ escL q l else if special q c = true then (repB c).data.toList ++ escL q (d :: l) else c :: escL q (d :: l)
def nOf (q : Bool) : Nat := if q = true then 6 else 5
def mapOf (q : Bool) (c : UInt8) : Nat :=
  if q = true then (if c = 34 then 0 else if c = 38 then 1 else if c = 60 then 2 else if c = 62 then 3 else if c = 160 then 4 else if c = 194 then 5 else 6)
  else (if c = 38 then 0 else if c = 60 then 1 else if c = 62 then 2 else if c = 160 then 3 else if c = 194 then 4 else 5)

theorem repB_le (c : UInt8) : (repB c).size ≤ 6 := by
  unfold repB
  repeat' split
  all_goals decide
theorem escL_special (q : Bool) (c : UInt8) (l : List UInt8) (h : special q c = true) : escL q (c :: l) = (repB c).data.toList ++ escL q l := by
  have hc : ¬ c = 194 := by rintro rfl; revert h; cases q <;> decide
  cases l with
  | nil => simp [escL, h]
  | cons d l => rw [escL, if_neg (fun h => hc h.1), if_pos h]
theorem escL_plain (q : Bool) (c : UInt8) (l : List UInt8) (h : special q c = false) (h2 : ¬ (c = 194 ∧ l.head? = some 160)) : escL q (c :: l) = c :: escL q l := by
  cases l with
  | nil => simp [escL, h]
  | cons d l => rw [escL, if_neg (fun h => h2 ⟨h.1, by rw [h.2]; rfl⟩), if_neg (by rw [h]; simp)]
theorem escL_nbsp (q : Bool) (l : List UInt8) : escL q (194 :: 160 :: l) = nbspB.data.toList ++ escL q l := by
  rw [escL, if_pos ⟨rfl, rfl⟩]

/-- What stands in the root's table for a byte. -/
def Entry (q : Bool) (C D : Nat) (w : World) (v : Value) (c : UInt8) : Prop :=
  (c = 160 ∧ v = .pointer none) ∨
  (c = 194 ∧ ∃ (a b : Nat) (p : Int), v = .pointer (some ⟨a, 0, none⟩) ∧ 0 < p ∧ w.rowIs a 84 5 (stemF b) ∧ w.rowIs b 84 5 (leafF nbspB p) ∧ C ≤ a ∧ a < D ∧ C ≤ b ∧ b < D) ∨
  (special q c = true ∧ ∃ (a : Nat) (p : Int), v = .pointer (some ⟨a, 0, none⟩) ∧ 0 < p ∧ w.rowIs a 84 5 (leafF (repB c) p) ∧ C ≤ a ∧ a < D)
/-- The replacer that is built at G; all its blocks lie from C on, ahead of D. -/
def Ready (q : Bool) (C D : Nat) (w : World) (G : Nat) : Prop :=
  ∃ (T : Nat) (g t : Nat → Value), w.rowIs G 86 262 g ∧ C ≤ G ∧ G < D ∧ g 1 = .int .i64 0 ∧ g 4 = .slice (some ⟨T, 0, none⟩) (nOf q) (nOf q) ∧ g 5 = .int .i64 (nOf q) ∧
    (∀ c : UInt8, g (6 + c.toNat) = .int .u8 (mapOf q c)) ∧ w.rowIs T 81 (nOf q) t ∧ C ≤ T ∧ T < D ∧ ∀ c : UInt8, mapOf q c < nOf q → Entry q C D w (t (mapOf q c)) c

theorem Entry.of_blocks {q : Bool} {C D : Nat} {w w' : World} {v : Value} {c : UInt8} (h : Entry q C D w v c) (hb : ∀ k, C ≤ k → k < D → w'.heap[k]? = w.heap[k]?) : Entry q C D w' v c := by
  rcases h with h | ⟨h1, a, b, p, h2, h3, h4, h5, h6, h7, h8, h9⟩ | ⟨h1, a, p, h2, h3, h4, h5, h6⟩
  · exact .inl h
  · exact .inr (.inl ⟨h1, a, b, p, h2, h3, h4.of_block (hb a h6 h7), h5.of_block (hb b h8 h9), h6, h7, h8, h9⟩)
  · exact .inr (.inr ⟨h1, a, p, h2, h3, h4.of_block (hb a h5 h6), h5, h6⟩)
theorem Ready.of_blocks {q : Bool} {C D : Nat} {w w' : World} {G : Nat} (h : Ready q C D w G) (hb : ∀ k, C ≤ k → k < D → w'.heap[k]? = w.heap[k]?) : Ready q C D w' G := by
  obtain ⟨T, g, t, h1, h2, h3, h4, h5, h6, h7, h8, h9, h10, h11⟩ := h
  exact ⟨T, g, t, h1.of_block (hb G h2 h3), h2, h3, h4, h5, h6, h7, h8.of_block (hb T h9 h10), h9, h10, fun c hc => (h11 c hc).of_blocks hb⟩
theorem Ready.below {q : Bool} {C D : Nat} {w w' : World} {G : Nat} (h : Ready q C D w G) (hb : Below D w w') : Ready q C D w' G := h.of_blocks fun k _ hk => hb.block k hk

theorem mapOf_le (q : Bool) (c : UInt8) : mapOf q c ≤ nOf q := by
  unfold mapOf nOf
  cases q <;> (repeat' split) <;> first | omega | simp_all
theorem mapOf_top (q : Bool) (c : UInt8) (h : ¬ mapOf q c < nOf q) : special q c = false ∧ ¬ c = 194 := by
  unfold mapOf nOf at h
  unfold special
  cases q
  · simp only [Bool.false_eq_true, if_false] at h
    by_cases h1 : c = 38
    · simp [h1] at h
    · by_cases h2 : c = 60
      · simp [h2] at h
      · by_cases h3 : c = 62
        · simp [h3] at h
        · by_cases h4 : c = 160
          · simp [h4] at h
          · by_cases h5 : c = 194
            · simp [h5] at h
            · simp [h1, h2, h3, h5]
  · simp only [if_true] at h
    by_cases h0 : c = 34
    · simp [h0] at h
    · by_cases h1 : c = 38
      · simp [h1] at h
      · by_cases h2 : c = 60
        · simp [h2] at h
        · by_cases h3 : c = 62
          · simp [h3] at h
          · by_cases h4 : c = 160
            · simp [h4] at h
            · by_cases h5 : c = 194
              · simp [h5] at h
              · simp [h0, h1, h2, h3, h5]

/-- What the code meets at a byte. -/
inductive Meets (q : Bool) (w : World) (G T n m : Nat) (s : ByteArray) (j : Nat) (c : UInt8) : Prop
  | top (h : m = n) (h2 : special q c = false) (h3 : ¬ c = 194)
  | none (h : m < n) (h2 : special q c = false) (h3 : ¬ c = 194) (ht : w.cell? ⟨T, m, none⟩ = some (.pointer none))
  | found (h : m < n) (a : Nat) (ht : w.cell? ⟨T, m, none⟩ = some (.pointer (some ⟨a, 0, none⟩))) (v : ByteArray) (kl : Nat) (h1 : 1 ≤ kl) (h2 : j + kl ≤ s.size) (h3 : v.size ≤ 6)
      (he : escL q (s.data.toList.drop j) = v.data.toList ++ escL q (s.data.toList.drop (j + kl)))
      (hl : ∀ d, Calls Try.prog 87 #[.pointer (some ⟨G, 0, none⟩), .string (s.extract j s.size), .bool false] (w.drewN d) fun e w' => e = .returned (.tuple #[.string v, .int .i64 kl, .bool true]) ∧ ∃ m, w' = (w.drewN d).drewN m)
  | miss (h : m < n) (a : Nat) (ht : w.cell? ⟨T, m, none⟩ = some (.pointer (some ⟨a, 0, none⟩)))
      (he : escL q (s.data.toList.drop j) = c :: escL q (s.data.toList.drop (j + 1)))
      (hl : ∀ d, Calls Try.prog 87 #[.pointer (some ⟨G, 0, none⟩), .string (s.extract j s.size), .bool false] (w.drewN d) fun e w' => e = .returned (.tuple #[.string ⟨#[]⟩, .int .i64 0, .bool false]) ∧ ∃ m, w' = (w.drewN d).drewN m)

theorem drop_at (s : ByteArray) (j : Nat) (h : j < s.size) : s.data.toList.drop j = s[j] :: s.data.toList.drop (j + 1) := by
  rw [List.drop_eq_getElem_cons (by simpa using h)]
  rfl
theorem ext0 (s : ByteArray) (j : Nat) (h : j < s.size) (h' : 0 < (s.extract j s.size).size) : (s.extract j s.size)[0]'h' = s[j] := by
  have h1 := drop_at (s.extract j s.size) 0 h'
  have h2 := ext_from s j
  rw [List.drop_zero, h2, drop_at s j h] at h1
  exact (List.cons.inj h1).1.symm
theorem ready_meets {q : Bool} {C D : Nat} {w : World} {G : Nat} (h : Ready q C D w G) :
    ∃ T, w.cell? ⟨G, 1, none⟩ = some (.int .i64 0) ∧ w.cell? ⟨G, 4, none⟩ = some (.slice (some ⟨T, 0, none⟩) (nOf q) (nOf q)) ∧ w.cell? ⟨G, 5, none⟩ = some (.int .i64 (nOf q)) ∧
      ∀ (s : ByteArray) (j : Nat) (hj : j < s.size), s.size ≤ 140737488355328 → w.cell? ⟨G, 6 + (s[j]'hj).toNat, none⟩ = some (.int .u8 (mapOf q (s[j]'hj))) ∧ Meets q w G T (nOf q) (mapOf q (s[j]'hj)) s j (s[j]'hj) := by
  obtain ⟨T, g, t, h1, h2, h3, h4, h5, h6, h7, h8, h9, h10, h11⟩ := h
  have g1 := h1.cell (i := 1) (by omega)
  have g4 := h1.cell (i := 4) (by omega)
  have g5 := h1.cell (i := 5) (by omega)
  rw [h4] at g1
  rw [h5] at g4
  rw [h6] at g5
  refine ⟨T, g1, g4, g5, fun s j hj hs => ?_⟩
  have gm := h1.cell (i := 6 + (s[j]'hj).toNat) (by have := (s[j]'hj).toNat_lt; omega)
  rw [h7] at gm
  refine ⟨gm, ?_⟩
  by_cases hm : mapOf q (s[j]'hj) < nOf q
  · have gt := h8.cell hm
    have hn : nOf q < 100 := by unfold nOf; split <;> omega
    have hz : (s.extract j s.size).size = s.size - j := by rw [ByteArray.size_extract]; omega
    have hz0 : 0 < (s.extract j s.size).size := by omega
    have he0 := ext0 s j hj hz0
    rcases h11 _ hm with ⟨e1, e2⟩ | ⟨e1, a, b, p, e2, e3, e4, e5, e6, e7, e8, e9⟩ | ⟨e1, a, p, e2, e3, e4, e5, e6⟩
    · rw [e2] at gt
      exact .none hm (by rw [e1]; cases q <;> decide) (by rw [e1]; decide) gt
    · rw [e2] at gt
      have hx : (s.extract j s.size).extract 1 (s.extract j s.size).size = s.extract (j + 1) s.size := by
        apply ByteArray.ext
        rw [← Array.toList_inj, ext_list, ext_list, ext_list, hz, List.drop_take, List.drop_drop, List.take_take]
        congr 1
        omega
      have hx2 : ((s.extract j s.size).extract 1 (s.extract j s.size).size).extract 0 1 = ⟨#[160]⟩ ↔ (s.data.toList.drop (j + 1)).head? = some 160 := by
        rw [hx]
        constructor
        · intro h
          have := congrArg (fun b => b.data.toList) h
          simp only [ext_list] at this
          rw [List.drop_zero, List.take_of_length_le (i := s.size - (j + 1)) (by simp)] at this
          cases hd : s.data.toList.drop (j + 1) with
          | nil => rw [hd] at this; simp at this
          | cons x l => rw [hd] at this; simp at this; rw [this]; rfl
        · intro h
          apply ByteArray.ext
          rw [← Array.toList_inj, ext_list, ext_list, List.drop_zero, List.take_of_length_le (i := s.size - (j + 1)) (by simp)]
          cases hd : s.data.toList.drop (j + 1) with
          | nil => rw [hd] at h; simp at h
          | cons x l => rw [hd] at h; simp at h; rw [h]; rfl
      by_cases h160 : (s.data.toList.drop (j + 1)).head? = some 160
      · have hj1 : j + 1 < s.size := by
          rcases Nat.lt_or_ge (j + 1) s.size with h | h
          · exact h
          · rw [List.drop_of_length_le (by simpa using h)] at h160; simp at h160
        refine .found hm a gt nbspB 2 (by omega) (by omega) (by decide) ?_ (fun d => look_stem_hit G T a b (nOf q) _ nbspB p _ (w.drewN d) hz0 (by omega) hm hn e3 (by omega) (hx2.2 h160) g1 g4 g5 (by rw [he0]; exact gm) gt e4 e5)
        rw [drop_at s j hj, e1, drop_at s (j + 1) hj1]
        rw [drop_at s (j + 1) hj1] at h160
        have : s[j + 1] = 160 := by simpa using h160
        rw [this, escL_nbsp]
      · refine .miss hm a gt ?_ (fun d => look_stem_miss G T a b (nOf q) _ _ (w.drewN d) hz0 (by omega) hm hn (fun h => h160 (hx2.1 h)) g1 g4 g5 (by rw [he0]; exact gm) gt e4)
        rw [drop_at s j hj, escL_plain q _ _ (by rw [e1]; cases q <;> decide) (fun h => h160 h.2)]
    · rw [e2] at gt
      refine .found hm a gt (repB _) 1 (Nat.le_refl _) (by omega) (repB_le _) ?_ (fun d => look_leaf G T a (nOf q) _ _ p _ (w.drewN d) hz0 (by omega) hm hn e3 g1 g4 g5 (by rw [he0]; exact gm) gt e4)
      rw [drop_at s j hj, escL_special q _ _ e1]
  · have := mapOf_le q (s[j]'hj)
    obtain ⟨h1, h2⟩ := mapOf_top q _ hm
    exact .top (by omega) h1 h2
end Go.Proofs.Ytebcdfdkgjcmmaa.Hand
