/- The decoder on lists of bytes: plain laws, part two: what is right stays. -/
import Derived.Test.YtoejbjmdcokojaaDoorInLaws
namespace Go.Proofs.YtoejbjmdcokojaaDoor.InLaws
set_option linter.unusedVariables false
set_option linter.unusedSimpArgs false
open Go Go.RowKit Go.Proofs.YtoejbjmdcokojaaDoor.Hand

theorem asks_low {c : UInt8} (h : c.toNat < 128) : asksI c.toNat = (0, 128, 191) := by
  unfold asksI
  rw [if_pos (by omega)]
theorem ref_low {c : UInt8} (t : List UInt8) (h : c.toNat < 128) : refL (c :: t) = c :: refL t := by
  rw [refL_cons c t (asks_low h) (m := 0) (by rfl), if_pos (by rfl)]
  rfl
theorem ref_ascii : ∀ l : List UInt8, (∀ c ∈ l, c.toNat < 128) → refL l = l
  | [], _ => refL_nil
  | c :: l, h => by rw [ref_low l (h c (by simp)), ref_ascii l fun d hd => h d (by simp [hd])]
theorem crlf_id : ∀ l : List UInt8, (13 : UInt8) ∉ l → crlf l = l
  | [], _ => rfl
  | c :: l, h => by
    have h1 : c ≠ 13 := fun e => h (by simp [e])
    have h2 : (13 : UInt8) ∉ l := fun e => h (by simp [e])
    rw [crlf, if_neg h1, crlf_id l h2]
theorem crlf_no : ∀ l : List UInt8, (13 : UInt8) ∉ crlf l
  | [] => by simp [crlf]
  | c :: l => by
    have ih := crlf_no l
    rw [crlf]
    split
    · split
      · exact ih
      · simp [ih]
    · rename_i h
      simp [ih, Ne.symm h]
theorem unmark_head {c : UInt8} (t : List UInt8) (h : c ≠ 239) : unmark (c :: t) = c :: t := unmark_not (by rintro r e; injection e with e1 _; exact h e1)
theorem low_head {l : List UInt8} (h : ∀ c ∈ l, c.toNat < 128) : unmark l = l := by
  cases l with
  | nil => exact unmark_not (by intro r e; cases e)
  | cons c t =>
    refine unmark_head t fun e => ?_
    have := h c (by simp)
    subst e
    exact absurd this (by decide)
theorem decode_ascii (l : List UInt8) (h : ∀ c ∈ l, c.toNat < 128) : decodeL l = crlf l := by rw [decode_eq, low_head h, ref_ascii l h]

/-! ### What is right -/
def okF : Int → Int → List UInt8 → Prop
  | _, _, [] => True
  | lo, hi, d :: t => (lo ≤ d.toNat ∧ (d.toNat : Int) ≤ hi) ∧ okF 128 191 t
theorem lead_ok : ∀ (f : List UInt8) (lo hi : Int) (r : List UInt8), okF lo hi f → lead lo hi f.length (f ++ r) = f.length
  | [], _, _, _, _ => rfl
  | d :: f, lo, hi, r, h => by
    show lead lo hi (f.length + 1) (d :: (f ++ r)) = _
    rw [lead, if_pos h.1, lead_ok f 128 191 r h.2]
    rfl
theorem lead_part : ∀ (f : List UInt8) (lo hi : Int) (m : Nat), okF lo hi f → f.length ≤ m → lead lo hi m f = f.length
  | [], _, _, m, _, _ => by cases m <;> rfl
  | d :: f, lo, hi, 0, _, hm => by simp at hm
  | d :: f, lo, hi, m + 1, h, hm => by
    rw [lead, if_pos h.1, lead_part f 128 191 m h.2 (by simpa using hm)]
    rfl
theorem ok_of_lead : ∀ (m : Nat) (lo hi : Int) (t : List UInt8), okF lo hi (t.take (lead lo hi m t))
  | 0, _, _, _ => by simp [lead, okF]
  | m + 1, _, _, [] => by simp [lead, okF]
  | m + 1, lo, hi, d :: t => by
    rw [lead]
    split
    · rename_i h
      rw [List.take_succ_cons]
      exact ⟨h, ok_of_lead m 128 191 t⟩
    · simp [okF]
theorem ok_mid : ∀ (f : List UInt8) (lo hi : Int), 128 ≤ lo → hi ≤ 191 → okF lo hi f → ∀ d ∈ f, 128 ≤ d.toNat ∧ d.toNat ≤ 191
  | [], _, _, _, _, _ => by simp
  | d :: f, lo, hi, h1, h2, h => by
    intro x hx
    rcases List.mem_cons.1 hx with rfl | hx
    · have := h.1; omega
    · exact ok_mid f 128 191 (by omega) (by omega) h.2 x hx
theorem ok_take {f : List UInt8} {lo hi : Int} (k : Nat) (h : okF lo hi f) : okF lo hi (f.take k) := by
  induction f generalizing lo hi k with
  | nil => simp [okF]
  | cons d f ih =>
    cases k with
    | zero => simp [okF]
    | succ k => rw [List.take_succ_cons]; exact ⟨h.1, ih k h.2⟩

/-- A byte, with what it asks for behind it. -/
structure Chunk (c : UInt8) (f : List UInt8) : Prop where
  is : ∃ lo hi : Int, asksI c.toNat = ((f.length : Int), lo, hi) ∧ 128 ≤ lo ∧ hi ≤ 191 ∧ okF lo hi f
inductive Val : List UInt8 → Prop
  | nil : Val []
  | cons (c : UInt8) (f r : List UInt8) (h : Chunk c f) (hr : Val r) : Val (c :: (f ++ r))
theorem asks_bounds : ∀ c : Fin 256, 128 ≤ (asksI ((c.val : Nat) : Int)).2.1 ∧ (asksI ((c.val : Nat) : Int)).2.2 ≤ 191 ∧ ((asksI ((c.val : Nat) : Int)).1 = 0 → c.val < 128) ∧ (0 < (asksI ((c.val : Nat) : Int)).1 → 192 ≤ c.val) := by decide +kernel
theorem asks_bounds' (c : UInt8) {n lo hi : Int} (h : asksI c.toNat = (n, lo, hi)) : 128 ≤ lo ∧ hi ≤ 191 ∧ (n = 0 → c.toNat < 128) ∧ (0 < n → 192 ≤ c.toNat) := by
  have := asks_bounds ⟨c.toNat, c.toNat_lt⟩
  simp only [h] at this
  exact this
theorem chunk_fffd : Chunk 239 [191, 189] := ⟨128, 191, asks239, by omega, by omega, by refine ⟨⟨?_, ?_⟩, ⟨?_, ?_⟩, trivial⟩ <;> decide⟩
theorem chunk_first {c : UInt8} {f : List UInt8} (h : Chunk c f) : (f = [] ∧ c.toNat < 128) ∨ (f ≠ [] ∧ 192 ≤ c.toNat) := by
  obtain ⟨lo, hi, ha, _, _, _⟩ := h.is
  have hb := asks_bounds' c ha
  cases f with
  | nil => exact .inl ⟨rfl, hb.2.2.1 rfl⟩
  | cons d f => exact .inr ⟨by simp, hb.2.2.2 (by simp only [List.length_cons]; omega)⟩
theorem chunk_rest {c : UInt8} {f : List UInt8} (h : Chunk c f) : ∀ d ∈ f, 128 ≤ d.toNat ∧ d.toNat ≤ 191 := by
  obtain ⟨lo, hi, _, h1, h2, h3⟩ := h.is
  exact ok_mid f lo hi h1 h2 h3
theorem ref_chunk {c : UInt8} {f : List UInt8} (r : List UInt8) (h : Chunk c f) : refL (c :: (f ++ r)) = c :: (f ++ refL r) := by
  obtain ⟨lo, hi, ha, _, _, h3⟩ := h.is
  rw [refL_cons c (f ++ r) ha (m := f.length) (by rw [Int.toNat_natCast]; exact lead_ok f lo hi r h3), if_pos rfl]
  simp
theorem ref_val {l : List UInt8} (h : Val l) : refL l = l := by
  induction h with
  | nil => exact refL_nil
  | cons c f r h _ ih => rw [ref_chunk r h, ih]
theorem val_app {a b : List UInt8} (ha : Val a) (hb : Val b) : Val (a ++ b) := by
  induction ha with
  | nil => exact hb
  | cons c f r h _ ih =>
    have := Val.cons c f (r ++ b) h ih
    simpa using this
theorem ref_app {a : List UInt8} (b : List UInt8) (ha : Val a) : refL (a ++ b) = a ++ refL b := by
  induction ha with
  | nil => rfl
  | cons c f r h _ ih =>
    have := ref_chunk (r ++ b) h
    simp only [List.cons_append, List.append_assoc]
    rw [this, ih]
theorem val_ref : ∀ (n : Nat) (l : List UInt8), l.length ≤ n → Val (refL l)
  | _, [], _ => by rw [refL_nil]; exact .nil
  | 0, c :: t, h => by simp at h
  | n + 1, c :: t, hn => by
    simp only [List.length_cons] at hn
    obtain ⟨k, lo, hi, ha⟩ := tri (asksI c.toNat)
    obtain ⟨m, hm⟩ : ∃ m, lead lo hi k.toNat t = m := ⟨_, rfl⟩
    have ih := val_ref n (t.drop m) (by rw [List.length_drop]; omega)
    have hb := asks_bounds' c ha
    rw [refL_cons c t ha hm]
    split
    · rename_i hk
      have hle := (lead_le k.toNat lo hi t).1
      rw [hm] at hle
      have hl : (t.take m).length = m := by rw [List.length_take]; omega
      refine Val.cons c (t.take m) _ ⟨lo, hi, by rw [hl, ha, hk], hb.1, hb.2.1, ?_⟩ ih
      have := ok_of_lead k.toNat lo hi t
      rw [hm] at this
      exact this
    · exact Val.cons 239 [191, 189] _ chunk_fffd ih
theorem crlf_mid : ∀ (f r : List UInt8), (∀ d ∈ f, d ≠ 13) → crlf (f ++ r) = f ++ crlf r
  | [], _, _ => rfl
  | d :: f, r, h => by
    rw [List.cons_append, crlf, if_neg (h d (by simp)), crlf_mid f r fun x hx => h x (by simp [hx])]
    rfl
theorem ne13 {d : UInt8} (h : 128 ≤ d.toNat) : d ≠ 13 := by
  intro e
  subst e
  exact absurd h (by decide)
theorem val_crlf {l : List UInt8} (h : Val l) : Val (crlf l) := by
  induction h with
  | nil => exact .nil
  | cons c f r h _ ih =>
    have hmid := crlf_mid f r fun d hd => ne13 (chunk_rest h d hd).1
    rcases chunk_first h with ⟨rfl, hc⟩ | ⟨hf, hc⟩
    · rw [List.nil_append, crlf]
      split
      · split
        · exact ih
        · exact Val.cons 10 [] _ ⟨128, 191, asks_low (by decide), by omega, by omega, trivial⟩ ih
      · exact Val.cons c [] _ h ih
    · rw [crlf, if_neg (ne13 (by omega)), hmid]
      exact Val.cons c f _ h ih
theorem val_decode (l : List UInt8) : Val (decodeL l) := by
  rw [decode_eq]
  exact val_crlf (val_ref _ _ (Nat.le_refl _))
theorem decode_again {s : List UInt8} (hv : Val s) (h13 : (13 : UInt8) ∉ s) (hm : ∀ r, s ≠ 239 :: 187 :: 191 :: r) : decodeL s = s := by rw [decode_eq, unmark_not hm, ref_val hv, crlf_id s h13]
theorem decode_no (l : List UInt8) : (13 : UInt8) ∉ decodeL l := by rw [decode_eq]; exact crlf_no _

/-! ### How many characters -/
def begc (c : UInt8) : Nat := if c.toNat < 128 ∨ 191 < c.toNat then 1 else 0
def begs : List UInt8 → Nat
  | [] => 0
  | c :: l => begc c + begs l
theorem begs_app : ∀ a b : List UInt8, begs (a ++ b) = begs a + begs b
  | [], b => by simp [begs]
  | c :: a, b => by rw [List.cons_append, begs, begs, begs_app a b]; omega
theorem begs_mid : ∀ f : List UInt8, (∀ d ∈ f, 128 ≤ d.toNat ∧ d.toNat ≤ 191) → begs f = 0
  | [], _ => rfl
  | d :: f, h => by
    have h1 := h d (by simp)
    rw [begs, begs_mid f fun x hx => h x (by simp [hx]), begc, if_neg (by omega)]
theorem begc_le (c : UInt8) : begc c ≤ 1 := by unfold begc; split <;> omega
theorem begs_ref : ∀ (n : Nat) (l : List UInt8), l.length ≤ n → begs (refL l) ≤ l.length
  | _, [], _ => by rw [refL_nil]; exact Nat.le_refl _
  | 0, c :: t, h => by simp at h
  | n + 1, c :: t, hn => by
    simp only [List.length_cons] at hn
    obtain ⟨k, lo, hi, ha⟩ := tri (asksI c.toNat)
    obtain ⟨m, hm⟩ : ∃ m, lead lo hi k.toNat t = m := ⟨_, rfl⟩
    have ih := begs_ref n (t.drop m) (by rw [List.length_drop]; omega)
    rw [List.length_drop] at ih
    have hb := asks_bounds' c ha
    have hle := (lead_le k.toNat lo hi t).1
    rw [hm] at hle
    rw [refL_cons c t ha hm]
    split
    · have h1 := ok_of_lead k.toNat lo hi t
      rw [hm] at h1
      have h2 := begs_mid _ (ok_mid _ lo hi hb.1 hb.2.1 h1)
      have h3 := begc_le c
      rw [List.cons_append, begs, begs_app, h2, List.length_cons]
      omega
    · rw [begs_app]
      have : begs fffd.data.toList = 1 := by rfl
      rw [this, List.length_cons]
      omega
theorem begs_crlf : ∀ l : List UInt8, begs (crlf l) ≤ begs l
  | [] => Nat.le_refl _
  | c :: l => by
    have ih := begs_crlf l
    have h10 : begc 10 = 1 := by decide
    rw [crlf]
    split
    · rename_i h
      have h13 : begc c = 1 := by rw [h]; decide
      split
      · rw [begs]; omega
      · rw [begs, begs]; omega
    · rw [begs, begs]; omega
theorem unmark_len (l : List UInt8) : (unmark l).length ≤ l.length := by
  unfold unmark
  split
  · simp only [List.length_cons]; omega
  · exact Nat.le_refl _
theorem begs_decode (l : List UInt8) : begs (decodeL l) ≤ l.length := by
  rw [decode_eq]
  exact Nat.le_trans (begs_crlf _) (Nat.le_trans (begs_ref _ _ (Nat.le_refl _)) (unmark_len l))
theorem feed_len (l : List UInt8) : (decodeL l).length ≤ 3 * l.length := by
  have hc : ∀ l : List UInt8, (crlf l).length ≤ l.length := by
    intro l
    induction l with
    | nil => exact Nat.le_refl _
    | cons c l ih =>
      rw [crlf]
      split
      · split <;> simp only [List.length_cons] <;> omega
      · simp only [List.length_cons]; omega
  have hr : ∀ (n : Nat) (l : List UInt8), l.length ≤ n → (refL l).length ≤ 3 * l.length := by
    intro n
    induction n with
    | zero => intro l h; rw [List.eq_nil_of_length_eq_zero (Nat.le_zero.1 h), refL_nil]; simp
    | succ n ih =>
      intro l h
      cases l with
      | nil => rw [refL_nil]; simp
      | cons c t =>
        simp only [List.length_cons] at h
        obtain ⟨k, lo, hi, ha⟩ := tri (asksI c.toNat)
        obtain ⟨m, hm⟩ : ∃ m, lead lo hi k.toNat t = m := ⟨_, rfl⟩
        have ih' := ih (t.drop m) (by rw [List.length_drop]; omega)
        rw [List.length_drop] at ih'
        have hle := (lead_le k.toNat lo hi t).1
        rw [hm] at hle
        rw [refL_cons c t ha hm]
        split
        · simp only [List.length_append, List.length_cons, List.length_take]
          omega
        · rw [List.length_append, List.length_cons]
          have : fffd.data.toList.length = 3 := by rfl
          omega
  rw [decode_eq]
  have h1 := hc (refL (unmark l))
  have h2 := hr _ (unmark l) (Nat.le_refl _)
  have h3 := unmark_len l
  omega
end Go.Proofs.YtoejbjmdcokojaaDoor.InLaws
