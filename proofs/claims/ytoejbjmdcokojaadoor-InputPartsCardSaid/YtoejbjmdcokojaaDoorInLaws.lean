/- The decoder on lists of bytes: plain laws. -/
import Derived.Test.YtoejbjmdcokojaaDoorInDecode
import Derived.Lib.CountLaws
namespace Go.Proofs.YtoejbjmdcokojaaDoor.InLaws
set_option linter.unusedVariables false
set_option linter.unusedSimpArgs false
open Go Go.RowKit Go.Proofs.YtoejbjmdcokojaaDoor.Hand

/-! ### strings.ReplaceAll, byte by byte -/
section
variable {old new : List UInt8}
theorem index_nil (h : old ≠ []) : Lib.index [] old = -1 := by
  cases old with
  | nil => exact absurd rfl h
  | cons a t => rfl
theorem index_hit {s : List UInt8} (h : old ≠ []) (hp : old.isPrefixOf s = true) : Lib.index s old = 0 := by
  cases s with
  | nil => cases old with
    | nil => exact absurd rfl h
    | cons a t => cases hp
  | cons b s => unfold Lib.index; rw [if_pos hp]
theorem rep_eq (hne : old ≠ new) (s : List UInt8) : Lib.replaceAll s old new = Lib.replaceK old new (Lib.count s old) s := by
  have e : (old == new) = false := by rw [beq_eq_false_iff_ne]; exact hne
  have e2 : Lib.replaceNum s old (-1) = Lib.count s old := by unfold Lib.replaceNum; rw [if_pos (Or.inl (by decide))]
  unfold Lib.replaceAll Lib.replace
  rw [e, e2]
  rfl
theorem rep_nil (h : old ≠ []) (hne : old ≠ new) : Lib.replaceAll [] old new = [] := by
  rw [rep_eq hne, Lib.count_miss (index_nil h)]
  rfl
theorem rep_hit {s : List UInt8} (h : old ≠ []) (hne : old ≠ new) (hp : old.isPrefixOf s = true) : Lib.replaceAll s old new = new ++ Lib.replaceAll (s.drop old.length) old new := by
  have hi := index_hit h hp
  rw [rep_eq hne, rep_eq hne, Lib.count_hit h (i := 0) hi, Nat.add_comm 1, Lib.replaceK_hit old new _ s 0 hi]
  simp
theorem rep_miss {b : UInt8} {s : List UInt8} (h : old ≠ []) (hne : old ≠ new) (hp : old.isPrefixOf (b :: s) = false) : Lib.replaceAll (b :: s) old new = b :: Lib.replaceAll s old new := by
  rw [rep_eq hne, rep_eq hne]
  by_cases hm : Lib.index s old = -1
  · have e : Lib.index (b :: s) old = -1 := by unfold Lib.index; rw [hp, hm]; rfl
    rw [Lib.count_miss hm, Lib.count_miss e]
    rfl
  · have hge := Lib.index_ge s old
    obtain ⟨i, hi⟩ : ∃ i : Nat, Lib.index s old = i := ⟨(Lib.index s old).toNat, by omega⟩
    have e : Lib.index (b :: s) old = (i + 1 : Nat) := by
      unfold Lib.index
      rw [hp, hi]
      have : ((i : Int) == -1) = false := by rw [beq_eq_false_iff_ne]; omega
      simp [this]
    have hd : (b :: s).drop (i + 1 + old.length) = s.drop (i + old.length) := by rw [show i + 1 + old.length = (i + old.length) + 1 by omega]; rfl
    rw [Lib.count_hit h hi, Lib.count_hit h e, hd, Nat.add_comm 1, Lib.replaceK_hit old new _ s i hi, Lib.replaceK_hit old new _ (b :: s) (i + 1) e, hd]
    simp
end

/-! ### Ends of lines -/
def crlf : List UInt8 → List UInt8
  | [] => []
  | c :: r => if c = 13 then (if r.head? = some 10 then crlf r else 10 :: crlf r) else c :: crlf r
def lf (c : UInt8) : UInt8 := if c = 13 then 10 else c
theorem rep13 : ∀ l : List UInt8, Lib.replaceAll l [13] [10] = l.map lf
  | [] => rep_nil (by decide) (by decide)
  | c :: l => by
    by_cases h : c = 13
    · subst h
      rw [rep_hit (by decide) (by decide) (by rfl)]
      have := rep13 l
      simp [this, lf]
    · rw [rep_miss (by decide) (by decide) (by simp [List.isPrefixOf, Ne.symm h]), rep13 l]
      simp [lf, h]
theorem rep1310 : ∀ (n : Nat) (l : List UInt8), l.length ≤ n → (Lib.replaceAll l [13, 10] [10]).map lf = crlf l
  | _, [], _ => by rw [rep_nil (by decide) (by decide)]; rfl
  | 0, c :: l, h => by simp at h
  | n + 1, c :: l, hn => by
    simp only [List.length_cons] at hn
    by_cases h : ([13, 10] : List UInt8).isPrefixOf (c :: l) = true
    · rw [rep_hit (by decide) (by decide) h]
      match l, h, hn with
      | [], h, _ => simp [List.isPrefixOf] at h
      | d :: r, h, hn =>
        simp [List.isPrefixOf] at h
        obtain ⟨rfl, rfl⟩ := h
        have := rep1310 n r (by simp at hn; omega)
        simp [crlf, this, lf]
    · have h' : ([13, 10] : List UInt8).isPrefixOf (c :: l) = false := Bool.eq_false_iff.2 h
      rw [rep_miss (by decide) (by decide) h', List.map_cons, rep1310 n l (by omega)]
      by_cases h13 : c = 13
      · subst h13
        have : l.head? ≠ some 10 := by
          intro e
          match l, e with
          | d :: r, e => simp at e; subst e; simp [List.isPrefixOf] at h'
        simp [crlf, this, lf]
      · simp [crlf, h13, lf]
theorem norm_eq (l : List UInt8) : normL l = crlf l := by
  unfold normL
  rw [rep13]
  exact rep1310 l.length l (Nat.le_refl _)

/-! ### The characters -/
def lead (lo hi : Int) : Nat → List UInt8 → Nat
  | 0, _ => 0
  | _ + 1, [] => 0
  | m + 1, d :: t => if lo ≤ d.toNat ∧ (d.toNat : Int) ≤ hi then lead 128 191 m t + 1 else 0
theorem tri (p : Int × Int × Int) : ∃ n lo hi, p = (n, lo, hi) := ⟨p.1, p.2.1, p.2.2, rfl⟩
attribute [local irreducible] Hand.asksI
theorem drop_lt (c : UInt8) (t : List UInt8) (m : Nat) : (t.drop m).length < (c :: t).length := by
  rw [List.length_drop, List.length_cons]
  omega
def refL : List UInt8 → List UInt8
  | [] => []
  | c :: t =>
    if (asksI c.toNat).1 = lead (asksI c.toNat).2.1 (asksI c.toNat).2.2 (asksI c.toNat).1.toNat t
    then c :: t.take (lead (asksI c.toNat).2.1 (asksI c.toNat).2.2 (asksI c.toNat).1.toNat t) ++ refL (t.drop (lead (asksI c.toNat).2.1 (asksI c.toNat).2.2 (asksI c.toNat).1.toNat t))
    else fffd.data.toList ++ refL (t.drop (lead (asksI c.toNat).2.1 (asksI c.toNat).2.2 (asksI c.toNat).1.toNat t))
termination_by l => l.length
decreasing_by all_goals exact drop_lt _ _ _
theorem refL_nil : refL [] = [] := by rw [refL]
theorem refL_cons (c : UInt8) (t : List UInt8) {n lo hi : Int} (h : asksI c.toNat = (n, lo, hi)) {m : Nat} (hm : lead lo hi n.toNat t = m) :
    refL (c :: t) = if n = m then c :: t.take m ++ refL (t.drop m) else fffd.data.toList ++ refL (t.drop m) := by
  rw [refL, h]
  simp only [hm]
theorem feed_cons (s : DS) (c : UInt8) (l : List UInt8) : feedS s (c :: l) = feedS (byteS s c) l := rfl
theorem feed_nil (s : DS) : feedS s [] = s := rfl

theorem mid_feed {N : Nat} (ih : ∀ r : List UInt8, r.length ≤ N → ∀ s : DS, s.k = 0 → endS (feedS s r) = s.out ++ refL r) : ∀ (t : List UInt8), t.length ≤ N → ∀ (s : DS), 0 < s.k →
    endS (feedS s t) = s.out ++ (if lead s.lo s.hi s.k t = s.k then s.op ++ t.take s.k ++ refL (t.drop s.k) else fffd.data.toList ++ refL (t.drop (lead s.lo s.hi s.k t))) := by
  intro t
  induction t with
  | nil =>
    intro _ s hk
    have e : lead s.lo s.hi s.k [] = 0 := by cases s.k <;> rfl
    rw [feed_nil, e, if_neg (by omega)]
    unfold endS
    rw [if_pos hk]
    simp [refL_nil]
  | cons d t iht =>
    intro hN s hk
    simp only [List.length_cons] at hN
    obtain ⟨m, hm⟩ : ∃ m, s.k = m + 1 := ⟨s.k - 1, by omega⟩
    by_cases hy : s.lo ≤ d.toNat ∧ (d.toNat : Int) ≤ s.hi
    · have e : lead s.lo s.hi s.k (d :: t) = lead 128 191 m t + 1 := by rw [hm, lead, if_pos hy]
      have eb : byteS s d = moreS s d := by unfold byteS; rw [if_neg (by omega), if_pos hy]
      rw [feed_cons, eb, e]
      by_cases h1 : s.k = 1
      · have hm0 : m = 0 := by omega
        subst hm0
        have em : moreS s d = { out := s.out ++ (s.op ++ [d]), op := [], k := 0, lo := 128, hi := 191 } := by unfold moreS; rw [if_pos h1]
        rw [em, ih t (by omega) _ rfl, h1]
        simp [lead]
      · have em : moreS s d = { s with op := s.op ++ [d], k := s.k - 1, lo := 128, hi := 191 } := by unfold moreS; rw [if_neg h1]
        have e2 : s.k - 1 = m := by omega
        rw [em, iht (by omega) _ (by simp only; omega)]
        simp only [hm, Nat.add_sub_cancel]
        by_cases hl : lead 128 191 m t = m
        · rw [if_pos hl, if_pos (by omega)]
          simp
        · rw [if_neg hl, if_neg (by omega)]
          simp
    · have e : lead s.lo s.hi s.k (d :: t) = 0 := by rw [hm, lead, if_neg hy]
      have eb : byteS s d = byteS (breaksS s) d := by
        unfold byteS
        rw [if_neg (by omega), if_neg hy, if_pos (show (breaksS s).k = 0 from rfl)]
      rw [feed_cons, eb, ← feed_cons, ih (d :: t) (by simpa using hN) _ rfl, e, if_neg (by omega)]
      unfold breaksS
      simp [hk]

theorem feed_ref : ∀ (N : Nat) (r : List UInt8), r.length ≤ N → ∀ s : DS, s.k = 0 → endS (feedS s r) = s.out ++ refL r := by
  intro N
  induction N with
  | zero =>
    intro r hr s hk
    obtain rfl := List.eq_nil_of_length_eq_zero (Nat.le_zero.1 hr)
    rw [feed_nil, refL_nil]
    unfold endS
    rw [if_neg (by omega)]
    simp
  | succ N ih =>
    intro r hr s hk
    cases r with
    | nil =>
      rw [feed_nil, refL_nil]
      unfold endS
      rw [if_neg (by omega)]
      simp
    | cons c t =>
      simp only [List.length_cons] at hr
      obtain ⟨n, lo, hi, ha⟩ : ∃ n lo hi, asksI c.toNat = (n, lo, hi) := tri _
      have eb : byteS s c = beginS s c := by unfold byteS; rw [if_pos hk]
      have ih0 : ∀ o, endS (feedS ⟨o, s.op, s.k, s.lo, s.hi⟩ t) = o ++ refL t := fun o => ih t (by omega) ⟨o, s.op, s.k, s.lo, s.hi⟩ hk
      have z0 : ∀ lo hi : Int, lead lo hi 0 t = 0 := fun _ _ => rfl
      rw [feed_cons, eb]
      unfold beginS
      rw [ha]
      simp only
      by_cases h0 : n < 0
      · rw [if_pos h0, ih0, refL_cons c t ha (m := 0) (by rw [show n.toNat = 0 by omega, z0]), if_neg (by omega)]
        simp
      · rw [if_neg h0]
        by_cases h1 : n = 0
        · rw [if_pos h1, ih0, refL_cons c t ha (m := 0) (by rw [show n.toNat = 0 by omega, z0]), if_pos (by omega)]
          simp
        · rw [if_neg h1, mid_feed ih t (by omega) _ (by simp only; omega), refL_cons c t ha rfl]
          simp only
          by_cases hl : lead lo hi n.toNat t = n.toNat
          · rw [if_pos hl, if_pos (by omega), hl]
            simp
          · rw [if_neg hl, if_neg (by omega)]

/-! ### The mark -/
def unmark : List UInt8 → List UInt8
  | 239 :: 187 :: 191 :: r => r
  | l => l
theorem trim_eq (l : List UInt8) : trimMark l = unmark l := by
  unfold trimMark Lib.trimPrefix Lib.hasPrefix
  match l with
  | [] => rfl
  | [a] => simp [List.isPrefixOf, unmark]
  | [a, b] => simp [List.isPrefixOf, unmark]
  | a :: b :: c :: r =>
    by_cases h : a = 239 ∧ b = 187 ∧ c = 191
    · obtain ⟨rfl, rfl, rfl⟩ := h
      simp [List.isPrefixOf, unmark]
    · rw [unmark.eq_2 _ (by rintro r' e; simp only [List.cons.injEq] at e; exact h ⟨e.1, e.2.1, e.2.2.1⟩)]
      rw [if_neg]
      simp only [List.isPrefixOf, Bool.and_true, Bool.and_eq_true, beq_iff_eq, not_and]
      intro e1 e2 e3
      exact h ⟨e1.symm, e2.symm, e3.symm⟩
theorem lead_le : ∀ (m : Nat) (lo hi : Int) (t : List UInt8), lead lo hi m t ≤ t.length ∧ lead lo hi m t ≤ m
  | 0, _, _, _ => ⟨Nat.zero_le _, Nat.zero_le _⟩
  | _ + 1, _, _, [] => ⟨Nat.zero_le _, Nat.zero_le _⟩
  | m + 1, lo, hi, d :: t => by
    have := lead_le m 128 191 t
    rw [lead]
    split
    · simp only [List.length_cons]
      omega
    · exact ⟨Nat.zero_le _, Nat.zero_le _⟩
theorem asks239 : asksI ((239 : UInt8).toNat : Int) = (2, 128, 191) := by decide +kernel
theorem unmark_not {l : List UInt8} (h : ∀ r, l ≠ 239 :: 187 :: 191 :: r) : unmark l = l := by
  unfold unmark
  split
  · exact absurd rfl (h _)
  · rfl
theorem unmark_yes (r : List UInt8) : unmark (239 :: 187 :: 191 :: r) = r := rfl
theorem ref_mark (r : List UInt8) : refL (239 :: 187 :: 191 :: r) = 239 :: 187 :: 191 :: refL r := by
  rw [refL_cons 239 _ asks239 (m := 2) (by rfl), if_pos (by decide)]
  rfl
theorem ref_no_mark {b : List UInt8} (h : ∀ r, b ≠ 239 :: 187 :: 191 :: r) : ∀ r, refL b ≠ 239 :: 187 :: 191 :: r := by
  intro r e
  cases b with
  | nil => rw [refL_nil] at e; cases e
  | cons c t =>
    obtain ⟨n, lo, hi, ha⟩ := tri (asksI c.toNat)
    rw [refL_cons c t ha rfl] at e
    split at e
    · rename_i hn
      have hc : c = 239 := by injection e
      subst hc
      rw [asks239] at ha
      injection ha with h1 h2
      injection h2 with h2 h3
      subst h1 h2 h3
      have hm : lead 128 191 (2 : Int).toNat t = 2 := by omega
      have hl := (lead_le (2 : Int).toNat 128 191 t).1
      rw [hm] at hl e
      match t, hl, h, e with
      | d :: f :: t', _, h, e =>
        simp only [List.take_succ_cons, List.take_zero, List.cons_append, List.nil_append, List.cons.injEq] at e
        exact h t' (by rw [e.2.1, e.2.2.1])
    · have e' : (239 : UInt8) :: 191 :: 189 :: refL (t.drop (lead lo hi n.toNat t)) = 239 :: 187 :: 191 :: r := e
      injection e' with _ e'
      injection e' with e' _
      exact absurd e' (by decide)
theorem unmark_ref (b : List UInt8) : unmark (refL b) = refL (unmark b) := by
  by_cases h : ∃ r, b = 239 :: 187 :: 191 :: r
  · obtain ⟨r, rfl⟩ := h
    rw [ref_mark, unmark_yes, unmark_yes]
  · have h' : ∀ r, b ≠ 239 :: 187 :: 191 :: r := fun r e => h ⟨r, e⟩
    rw [unmark_not h', unmark_not (ref_no_mark h')]
theorem decode_eq (l : List UInt8) : decodeL l = crlf (refL (unmark l)) := by
  have h := feed_ref l.length l (Nat.le_refl _) newS rfl
  unfold decodeL finishS
  rw [h, norm_eq, trim_eq]
  show crlf (unmark ([] ++ refL l)) = _
  rw [List.nil_append, unmark_ref]
theorem finish_eq (l : List UInt8) : finishS (feedS newS l) = crlf (refL (unmark l)) := decode_eq l
end Go.Proofs.YtoejbjmdcokojaaDoor.InLaws
