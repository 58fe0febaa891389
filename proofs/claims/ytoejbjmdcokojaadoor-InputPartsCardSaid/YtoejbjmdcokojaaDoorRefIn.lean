/- The document's answer for bytes as a text (portiereref01) is InLaws's, on lists of bytes. -/
import Derived.Test.YtoejbjmdcokojaaDoorPx4
import Derived.Test.YtoejbjmdcokojaaDoorPx1
import Derived.Test.YtoejbjmdcokojaaDoorPx2
import Derived.Test.YtoejbjmdcokojaaDoorInLaws
namespace Go.Proofs.YtoejbjmdcokojaaDoor.RefIn
set_option linter.unusedVariables false
set_option linter.unusedSimpArgs false
open Go Go.RowKit Go.Proofs.YtoejbjmdcokojaaDoor.Hand Go.Proofs.YtoejbjmdcokojaaDoor.InLaws Go.Proofs.YtoejbjmdcokojaaDoor.P Go.Proofs.YtoejbjmdcokojaaDoorW.PrintWords Go.Proofs.YtoejbjmdcokojaaDoorW.PrintLast Go.Proofs.YtoejbjmdcokojaaDoorW.PrintMore

def ints (l : List UInt8) : List Int := l.map fun c => (c.toNat : Int)
theorem ints_len (l : List UInt8) : (ints l).length = l.length := by simp [ints]
theorem ints_app (a b : List UInt8) : ints a ++ ints b = ints (a ++ b) := by simp [ints]
theorem ints_drop (l : List UInt8) (n : Nat) : (ints l).drop n = ints (l.drop n) := by simp [ints]
theorem ints_take (l : List UInt8) (n : Nat) : (ints l).take n = ints (l.take n) := by simp [ints]
theorem byte_range (c : UInt8) : 0 ≤ (c.toNat : Int) ∧ (c.toNat : Int) ≤ 255 := by have := c.toNat_lt; omega
theorem rd_at {l : List UInt8} {i : Nat} {c : UInt8} {t : List UInt8} (h : l.drop i = c :: t) : rd (ints l) i = (c.toNat : Int) ∧ i < l.length ∧ l.drop (i + 1) = t := by
  have hi : i < l.length := by
    rcases Nat.lt_or_ge i l.length with h1 | h1
    · exact h1
    · rw [List.drop_of_length_le h1] at h; cases h
  rw [List.drop_eq_getElem_cons hi] at h
  injection h with h1 h2
  refine ⟨?_, hi, h2⟩
  unfold rd
  rw [Int.toNat_natCast, List.getD_eq_getElem?_getD]
  simp [ints, List.getElem?_eq_getElem hi, h1]
theorem str_ints (l : List UInt8) : strOfNums (ints l) = ⟨l.toArray⟩ := by
  unfold strOfNums ints
  congr 2
  rw [List.map_map]
  conv => rhs; rw [← List.map_id l]
  apply List.map_congr_left
  intro c _
  simp
theorem bytes_ints (l : List UInt8) : P.bytesOf (ints l) = l := by
  unfold P.bytesOf ints
  rw [List.map_map]
  conv => rhs; rw [← List.map_id l]
  apply List.map_congr_left
  intro c _
  simp
theorem ints_bytes {l : List Int} (h : ∀ x ∈ l, 0 ≤ x ∧ x ≤ 255) : ints (P.bytesOf l) = l := by
  unfold P.bytesOf ints
  rw [List.map_map]
  conv => rhs; rw [← List.map_id l]
  apply List.map_congr_left
  intro x hx
  have := h x hx
  simp only [Function.comp, id, UInt8.toNat_ofNat']
  omega

theorem more_two : ∀ c : Fin 256, portiereref01_more.f 2 ((c.val : Nat) : Int) = some (asksI ((c.val : Nat) : Int)).1 := by decide +kernel
theorem more_of (c : Int) (h0 : 0 ≤ c) (h1 : c ≤ 255) (k : Nat) (hk : 2 ≤ k) : portiereref01_more.f k c = some (asksI c).1 := by
  obtain ⟨m, rfl⟩ : ∃ m, k = 2 + m := ⟨k - 2, by omega⟩
  clear hk
  induction m with
  | zero =>
    have := more_two ⟨c.toNat, by omega⟩
    rw [Int.toNat_of_nonneg h0] at this
    exact this
  | succ m ih => exact portiereref01_more.mono c (2 + m) _ ih
theorem wrap64_id {x : Int} (h0 : -9223372036854775808 ≤ x) (h1 : x < 9223372036854775808) : wrap64 x = x := by unfold wrap64; omega
theorem lead_zero (lo hi : Int) (t : List UInt8) : lead lo hi 0 t = 0 := rfl
theorem follows_first {c d n lo hi : Int} (ha : asksI c = (n, lo, hi)) (h0 : 0 ≤ c) (h1 : c ≤ 255) : portiereref01_follows.f c d 1 = some (decide (lo ≤ d ∧ d ≤ hi)) := by
  unfold asksI at ha
  unfold portiereref01_follows.f
  rw [if_pos rfl]
  repeat' split at ha
  all_goals (simp only [Prod.mk.injEq] at ha; obtain ⟨_, rfl, rfl⟩ := ha; repeat' split)
  all_goals first | (congr 1; rw [decide_eq_decide]; omega) | (congr 1; symm; rw [decide_eq_false_iff_not]; omega) | (exfalso; omega)
theorem follows_later (c d : Int) (j : Int) (hj : j ≠ 1) : portiereref01_follows.f c d j = some (decide (128 ≤ d ∧ d ≤ 191)) := by
  unfold portiereref01_follows.f
  rw [if_neg hj]
  split
  · congr 1; rw [decide_eq_decide]; omega
  · congr 1; symm; rw [decide_eq_false_iff_not]; omega

theorem right_loop (c : UInt8) (t : List UInt8) (ht : t.length ≤ 1048576) {n lo hi : Int} (ha : asksI c.toNat = (n, lo, hi)) (hn : n ≤ 3) : ∀ (u : List UInt8) (j k : Nat), 1 ≤ j → (c :: t).drop j = u → j ≤ t.length + 1 → u.length + 1 ≤ k →
    portiereref01_right.l0 k (ints (c :: t)) n j = some ((j + lead (if j = 1 then lo else 128) (if j = 1 then hi else 191) (n + 1 - j).toNat u : Nat) : Int) := by
  intro u
  induction u with
  | nil =>
    intro j k hj hd hjl hk
    obtain ⟨k, rfl⟩ : ∃ m, k = m + 1 := ⟨k - 1, by omega⟩
    have hlen : (c :: t).length ≤ j := List.drop_eq_nil_iff.1 hd
    simp only [List.length_cons] at hlen
    have e : ∀ lo hi : Int, lead lo hi (n + 1 - j).toNat [] = 0 := fun _ _ => by cases (n + 1 - j).toNat <;> rfl
    simp only [portiereref01_right.l0]
    rw [e]
    by_cases h1 : (j : Int) ≤ n
    · rw [if_pos h1, if_neg (by rw [ints_len, List.length_cons]; omega)]
      rfl
    · rw [if_neg h1]
      rfl
  | cons d u ih =>
    intro j k hj hd hjl hk
    obtain ⟨k, rfl⟩ : ∃ m, k = m + 1 := ⟨k - 1, by omega⟩
    obtain ⟨hrd, hlt, hd1⟩ := rd_at hd
    have hrd0 : rd (ints (c :: t)) 0 = (c.toNat : Int) := (rd_at (l := c :: t) (i := 0) rfl).1
    simp only [List.length_cons] at hlt hk
    have hw : Aside0 (wrap64 ((j : Int) + 1) = ((j + 1 : Nat) : Int)) := ⟨by rw [wrap64_id] <;> omega⟩
    have hc := byte_range c
    simp only [portiereref01_right.l0]
    by_cases h1 : (j : Int) ≤ n
    · obtain ⟨m, hm⟩ : ∃ m, (n + 1 - j).toNat = m + 1 := ⟨(n + 1 - j).toNat - 1, by omega⟩
      have hm2 : (n + 1 - ((j + 1 : Nat) : Int)).toNat = m := by omega
      have ih' := ih (j + 1) k (by omega) hd1 (by omega) (by omega)
      rw [hm2, if_neg (by omega), if_neg (by omega)] at ih'
      have hf : portiereref01_follows.f c.toNat d.toNat j = some (decide ((if j = 1 then lo else 128) ≤ (d.toNat : Int) ∧ (d.toNat : Int) ≤ (if j = 1 then hi else 191))) := by
        by_cases hj1 : j = 1
        · subst hj1
          exact follows_first ha hc.1 hc.2
        · rw [if_neg hj1, if_neg hj1]
          exact follows_later _ _ _ (by omega)
      rw [if_pos h1, if_pos (by rw [ints_len, List.length_cons]; omega), if_pos (by rw [ints_len, List.length_cons]; omega), if_pos (by omega), hrd0, hrd, hf, Option.bind_some, hm, lead]
      by_cases hy : (if j = 1 then lo else 128) ≤ (d.toNat : Int) ∧ (d.toNat : Int) ≤ (if j = 1 then hi else 191)
      · rw [if_pos hy, decide_eq_true hy, if_pos rfl, hw.out, ih', show ∀ x, j + 1 + x = j + (x + 1) from fun x => by omega]
      · rw [if_neg hy, decide_eq_false hy, if_neg (by decide)]
        rfl
    · rw [if_neg h1, show (n + 1 - j).toNat = 0 by omega, lead_zero, Nat.add_zero]
theorem right_of (c : UInt8) (t : List UInt8) (ht : t.length ≤ 1048576) {n lo hi : Int} (ha : asksI c.toNat = (n, lo, hi)) (k : Nat) (hk : t.length + 2 ≤ k) :
    portiereref01_right.f k (ints (c :: t)) = some ((1 + lead lo hi n.toNat t : Nat) : Int) := by
  have hc := byte_range c
  have hrd0 : rd (ints (c :: t)) 0 = (c.toNat : Int) := (rd_at (l := c :: t) (i := 0) rfl).1
  have hn : n ≤ 3 := by have := asks_range (c.toNat : Int); rw [ha] at this; exact this
  have h := right_loop c t ht ha hn t 1 k (Nat.le_refl _) rfl (by omega) (by omega)
  rw [if_pos rfl, if_pos rfl, show (n + 1 - ((1 : Nat) : Int)).toNat = n.toNat by omega] at h
  unfold portiereref01_right.f
  rw [if_pos (by rw [ints_len, List.length_cons]; omega), hrd0, more_of _ hc.1 hc.2 k (by omega), Option.bind_some, ha]
  exact h

theorem crlf_loop (x : List UInt8) (hx : x.length ≤ 16777216) : ∀ (u acc : List UInt8) (i k : Nat), x.drop i = u → acc.length ≤ i → u.length + 1 ≤ k →
    portiereref01_Decode.l1 k (ints x) (ints acc) i = some ⟨(acc ++ crlf u).toArray⟩ := by
  intro u
  induction u with
  | nil =>
    intro acc i k hd ha hk
    obtain ⟨k, rfl⟩ : ∃ m, k = m + 1 := ⟨k - 1, by omega⟩
    have hlen : x.length ≤ i := List.drop_eq_nil_iff.1 hd
    simp only [portiereref01_Decode.l1]
    rw [if_neg (by rw [ints_len]; omega), str_ints]
    simp [crlf]
  | cons c u ih =>
    intro acc i k hd ha hk
    obtain ⟨k, rfl⟩ : ∃ m, k = m + 1 := ⟨k - 1, by omega⟩
    obtain ⟨hrd, hlt, hd1⟩ := rd_at hd
    simp only [List.length_cons] at hk
    have hw : Aside0 (wrap64 ((i : Int) + 1) = ((i + 1 : Nat) : Int)) := ⟨by rw [wrap64_id] <;> omega⟩
    have go : ∀ b : UInt8, portiereref01_Decode.l1 k (ints x) (ints acc ++ [(b.toNat : Int)]) ((i + 1 : Nat) : Int) = some ⟨(acc ++ b :: crlf u).toArray⟩ := fun b => by
      have e : ints acc ++ [(b.toNat : Int)] = ints (acc ++ [b]) := by simp [ints]
      rw [e, ih (acc ++ [b]) (i + 1) k hd1 (by simp; omega) (by omega)]
      simp
    have g10 := go 10
    have e10 : (((10 : UInt8).toNat : Nat) : Int) = 10 := rfl
    rw [e10] at g10
    simp only [portiereref01_Decode.l1]
    rw [if_pos (by rw [ints_len]; omega), if_pos (by omega), hrd, hw.out]
    by_cases h13 : c = 13
    · subst h13
      rw [if_pos (by rfl)]
      by_cases hend : ((i + 1 : Nat) : Int) ≥ ((ints x).length : Int)
      · rw [if_pos hend, if_pos (by rw [ints_len]; omega), g10]
        rw [ints_len] at hend
        have : u = [] := by
          rw [← hd1]
          exact List.drop_eq_nil_iff.2 (by omega)
        subst this
        simp [crlf]
      · rw [if_neg hend, if_pos (by omega), if_pos (by omega)]
        rw [ints_len] at hend
        cases u with
        | nil =>
          have := List.drop_eq_nil_iff.1 hd1
          omega
        | cons d u =>
          obtain ⟨hrd2, _, _⟩ := rd_at hd1
          rw [hrd2]
          by_cases h10 : d = 10
          · subst h10
            rw [if_pos (by rfl), ih acc (i + 1) k hd1 (by omega) (by omega)]
            simp [crlf]
          · have hne : ¬ (d.toNat : Int) = 10 := by
              intro e
              apply h10
              apply UInt8.toNat_inj.1
              show d.toNat = 10
              omega
            rw [if_neg hne, if_pos (by rw [ints_len]; omega), g10]
            simp [crlf, h10]
    · have hne : ¬ (c.toNat : Int) = 13 := by
        intro e
        apply h13
        apply UInt8.toNat_inj.1
        show c.toNat = 13
        omega
      rw [if_neg hne, if_pos (by rw [ints_len]; omega), go c]
      simp [crlf, h13]

theorem take_mid (x : List UInt8) (i m : Nat) : ((ints x).take (i + m)).drop i = ints ((x.drop i).take m) := by
  rw [ints_take, ints_drop, List.drop_take, show i + m - i = m by omega]
theorem ref_loop (x : List UInt8) (hx : x.length ≤ 1048576) : ∀ (N : Nat) (u : List UInt8), u.length ≤ N → ∀ (acc : List UInt8) (i k : Nat), x.drop i = u → i + u.length = x.length → acc.length ≤ 3 * i → 5 * u.length + acc.length + 8 ≤ k →
    portiereref01_Decode.l0 k (ints x) (ints acc) i = some ⟨(crlf (acc ++ refL u)).toArray⟩ := by
  intro N
  induction N with
  | zero =>
    intro u hu acc i k hd hi ha hk
    obtain rfl := List.eq_nil_of_length_eq_zero (Nat.le_zero.1 hu)
    obtain ⟨k, rfl⟩ : ∃ m, k = m + 1 := ⟨k - 1, by omega⟩
    simp only [List.length_nil] at hi hk
    simp only [portiereref01_Decode.l0]
    rw [if_neg (by rw [ints_len]; omega), refL_nil, List.append_nil]
    exact crlf_loop acc (by omega) acc [] 0 k rfl (Nat.le_refl _) (by omega)
  | succ N ih =>
    intro u hu acc i k hd hi ha hk
    obtain ⟨k, rfl⟩ : ∃ m, k = m + 1 := ⟨k - 1, by omega⟩
    cases u with
    | nil =>
      simp only [List.length_nil] at hi hk
      simp only [portiereref01_Decode.l0]
      rw [if_neg (by rw [ints_len]; omega), refL_nil, List.append_nil]
      exact crlf_loop acc (by omega) acc [] 0 k rfl (Nat.le_refl _) (by omega)
    | cons c t =>
      obtain ⟨hrd, hlt, hd1⟩ := rd_at hd
      simp only [List.length_cons] at hu hi hk
      obtain ⟨n, lo, hi', ha'⟩ := tri (asksI c.toNat)
      have hc := byte_range c
      obtain ⟨m, hm⟩ : ∃ m, lead lo hi' n.toNat t = m := ⟨_, rfl⟩
      have hle := lead_le n.toNat lo hi' t
      rw [hm] at hle
      have hr := right_of c t (by omega) ha' k (by omega)
      rw [hm] at hr
      have hmo := more_of c.toNat hc.1 hc.2 k (by omega)
      rw [ha'] at hmo
      have hw1 : Aside0 (wrap64 (((1 + m : Nat) : Int) - 1) = (m : Int)) := ⟨by rw [wrap64_id] <;> omega⟩
      have hw2 : Aside0 (wrap64 ((i : Int) + ((1 + m : Nat) : Int)) = ((i + (1 + m) : Nat) : Int)) := ⟨by rw [wrap64_id] <;> omega⟩
      have hd2 : x.drop (i + (1 + m)) = t.drop m := by rw [← List.drop_drop, hd, Nat.add_comm 1 m]; rfl
      have hdl : (t.drop m).length = t.length - m := List.length_drop
      have next : ∀ b : List UInt8, b.length ≤ 3 * (1 + m) → portiereref01_Decode.l0 k (ints x) (ints (acc ++ b)) ((i + (1 + m) : Nat) : Int) = some ⟨(crlf (acc ++ (b ++ refL (t.drop m)))).toArray⟩ := fun b hb => by
        rw [ih (t.drop m) (by omega) (acc ++ b) (i + (1 + m)) k hd2 (by omega) (by rw [List.length_append]; omega) (by rw [List.length_append]; omega), List.append_assoc]
      simp only [portiereref01_Decode.l0]
      rw [if_pos (by rw [ints_len]; omega), if_pos (by omega), if_pos (by rw [ints_len]; omega), Int.toNat_natCast, ints_drop, hd, hr, Option.bind_some, hrd, hmo, Option.bind_some, hw1.out, hw2.out, refL_cons c t ha' hm]
      by_cases hn : n = m
      · rw [if_pos hn, if_pos hn, if_pos (by omega), if_pos (by rw [ints_len]; omega), Int.toNat_natCast, take_mid, hd, Nat.add_comm 1 m, Option.bind_some]
        rw [Nat.add_comm m 1]
        have hb : (c :: t.take m).length ≤ 3 * (1 + m) := by rw [List.length_cons, List.length_take]; omega
        rw [if_pos (by rw [ints_len, ints_len, List.length_take, List.length_cons]; omega), ints_app, Nat.add_comm 1 m, List.take_succ_cons, Nat.add_comm m 1, next _ hb]
      · rw [if_neg hn, if_neg hn, Option.bind_some]
        have e : ([239, 191, 189] : List Int) = ints fffd.data.toList := by rfl
        rw [e, if_pos (by rw [ints_len, ints_len]; show acc.length + 3 < _; omega), ints_app, next _ (by show 3 ≤ _; omega)]

theorem unmark_cases (l : List UInt8) : (∃ r, l = 239 :: 187 :: 191 :: r) ∨ ((∀ r, l ≠ 239 :: 187 :: 191 :: r) ∧ unmark l = l) := by
  by_cases h : ∃ r, l = 239 :: 187 :: 191 :: r
  · exact .inl h
  · have h' : ∀ r, l ≠ 239 :: 187 :: 191 :: r := fun r e => h ⟨r, e⟩
    exact .inr ⟨h', unmark_not h'⟩
theorem j1_of (l : List UInt8) (hl : l.length ≤ 1048576) (k : Nat) (hk : 5 * l.length + 10 ≤ k) : portiereref01_Decode.j1 k (ints l) = some ⟨(crlf (refL l)).toArray⟩ := by
  obtain ⟨k, rfl⟩ : ∃ m, k = m + 1 := ⟨k - 1, by omega⟩
  simp only [portiereref01_Decode.j1]
  exact ref_loop l hl l.length l (Nat.le_refl _) [] 0 k rfl (by omega) (Nat.le_refl _) (by simp; omega)
theorem j0_no (l : List UInt8) (hl : l.length ≤ 1048576) (k : Nat) (hk : 5 * l.length + 12 ≤ k) : portiereref01_Decode.j0 k (ints l) false = some ⟨(crlf (refL l)).toArray⟩ := by
  obtain ⟨k, rfl⟩ : ∃ m, k = m + 1 := ⟨k - 1, by omega⟩
  simp only [portiereref01_Decode.j0]
  rw [if_neg Bool.false_ne_true]
  exact j1_of l hl k (by omega)
theorem byte_iff (c d : UInt8) (n : Int) (hn : (d.toNat : Int) = n) : ((c.toNat : Int) = n) ↔ c = d := by
  constructor
  · intro h
    apply UInt8.toNat_inj.1
    omega
  · rintro rfl
    exact hn
theorem ref_of (l : List UInt8) (hl : l.length ≤ 1048576) (k : Nat) (hk : 5 * l.length + 12 ≤ k) : portiereref01_Decode.f k (ints l) = some ⟨(decodeL l).toArray⟩ := by
  rw [decode_eq]
  have hno := j0_no l hl k hk
  unfold portiereref01_Decode.f
  match l, hl, hk, hno with
  | [], _, _, hno => rw [if_neg (by simp [ints])]; exact hno
  | [a], _, _, hno => rw [if_neg (by simp [ints]), unmark_not (by intro r e; cases e)]; exact hno
  | [a, b], _, _, hno => rw [if_neg (by simp [ints]), unmark_not (by intro r e; cases e)]; exact hno
  | a :: b :: c :: r, hl, hk, hno =>
    simp only [List.length_cons] at hl hk
    have r0 : rd (ints (a :: b :: c :: r)) 0 = (a.toNat : Int) := (rd_at (l := a :: b :: c :: r) (i := 0) rfl).1
    have r1 : rd (ints (a :: b :: c :: r)) 1 = (b.toNat : Int) := (rd_at (l := a :: b :: c :: r) (i := 1) rfl).1
    have r2 : rd (ints (a :: b :: c :: r)) 2 = (c.toNat : Int) := (rd_at (l := a :: b :: c :: r) (i := 2) rfl).1
    have hlen : ((ints (a :: b :: c :: r)).length : Int) = r.length + 3 := by rw [ints_len]; simp only [List.length_cons]; omega
    have hlen3 : 3 ≤ ((ints (a :: b :: c :: r)).length : Int) := by omega
    rw [if_pos (by omega), if_pos (by omega), r0]
    by_cases h : a = 239 ∧ b = 187 ∧ c = 191
    · obtain ⟨rfl, rfl, rfl⟩ := h
      rw [if_pos (by rfl), if_pos (by omega), r1, if_pos (by rfl), if_pos (by omega), r2]
      obtain ⟨k, rfl⟩ : ∃ m, k = m + 1 := ⟨k - 1, by omega⟩
      simp only [portiereref01_Decode.j0]
      rw [if_pos (by rfl), if_pos hlen3, ints_drop, unmark_yes]
      exact j1_of r (by omega) k (by omega)
    · have hu : unmark (a :: b :: c :: r) = a :: b :: c :: r := unmark_not (by
        rintro r' e
        simp only [List.cons.injEq] at e
        exact h ⟨e.1, e.2.1, e.2.2.1⟩)
      rw [hu]
      by_cases h1 : (a.toNat : Int) = 239
      · rw [if_pos h1, if_pos (by omega), r1]
        by_cases h2 : (b.toNat : Int) = 187
        · rw [if_pos h2, if_pos (by omega), r2]
          have h3 : ¬ (c.toNat : Int) = 191 := fun h3 => h ⟨(byte_iff a 239 _ rfl).1 h1, (byte_iff b 187 _ rfl).1 h2, (byte_iff c 191 _ rfl).1 h3⟩
          have e3 : ((c.toNat : Int) == 191) = false := by rw [beq_eq_false_iff_ne]; exact h3
          rw [e3]
          exact hno
        · rw [if_neg h2]
          exact hno
      · rw [if_neg h1]
        exact hno
theorem decode_f (l : List UInt8) (hl : l.length ≤ 1048576) : input_Decode.f (ints l) = some ⟨(decodeL l).toArray⟩ := by
  unfold input_Decode.f
  rw [bytes_ints, if_pos ⟨by rw [ints_len]; exact hl, fun x hx => by
    obtain ⟨c, _, rfl⟩ := List.mem_map.1 hx
    exact byte_range c⟩]
theorem known_f : portierelaw01_known.f = some true := rfl
theorem wf_u8 {l : List Int} (h : ∀ x ∈ l, (Lit.int .u8 x).wf = true) : ∀ x ∈ l, 0 ≤ x ∧ x ≤ 255 := by
  intro x hx
  have := h x hx
  unfold Lit.wf at this
  rw [Bool.and_eq_true, decide_eq_true_eq, decide_eq_true_eq] at this
  have e1 : IntKind.u8.min = 0 := by decide
  have e2 : IntKind.u8.max = 255 := by decide
  omega
end Go.Proofs.YtoejbjmdcokojaaDoor.RefIn
