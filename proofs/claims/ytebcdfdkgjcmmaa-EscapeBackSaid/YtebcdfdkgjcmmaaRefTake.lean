/- The document's answer for references by name, and for whole texts (portiereref04), is what HandCharref says. -/
import Derived.Test.YtebcdfdkgjcmmaaRefCharref
namespace Go.Proofs.Ytebcdfdkgjcmmaa.RefCharref
set_option linter.unusedVariables false
set_option linter.unusedSimpArgs false
open Go Go.RowKit Go.Proofs.Ytebcdfdkgjcmmaa.P Go.Proofs.Ytebcdfdkgjcmmaa.Hand Go.Proofs.YtebcdfdkgjcmmaaW.PrintWords Go.Proofs.YtebcdfdkgjcmmaaW.PrintLast Go.Proofs.YtebcdfdkgjcmmaaW.PrintMore

def nm0 : ByteArray × Int × Bool := (⟨#[]⟩, 0, false)
theorem ref_code (j : Nat) (hj : j < 22) : portiereref04_code.f j = some ((named.getD j nm0).2.1, (named.getD j nm0).1, (named.getD j nm0).2.2) := by
  have h : j = 0 ∨ j = 1 ∨ j = 2 ∨ j = 3 ∨ j = 4 ∨ j = 5 ∨ j = 6 ∨ j = 7 ∨ j = 8 ∨ j = 9 ∨ j = 10 ∨ j = 11 ∨ j = 12 ∨ j = 13 ∨ j = 14 ∨ j = 15 ∨ j = 16 ∨ j = 17 ∨ j = 18 ∨ j = 19 ∨ j = 20 ∨ j = 21 := by omega
  rcases h with h | h | h | h | h | h | h | h | h | h | h | h | h | h | h | h | h | h | h | h | h | h <;> (subst h; rfl)
theorem named_at (i : Nat) (hi : i < 22) : named.drop i = named.getD i nm0 :: named.drop (i + 1) := by
  have h : i < named.length := by simp [named]; omega
  rw [List.drop_eq_getElem_cons h]
  simp [List.getD_eq_getElem?_getD, List.getElem?_eq_getElem h]
theorem named_small (i : Nat) : (named.getD i nm0).1.size ≤ 6 := by
  have h : ∀ x ∈ named, x.1.size ≤ 6 := by
    unfold named
    simp only [List.mem_cons, List.not_mem_nil, or_false]
    intro x hx
    rcases hx with h | h | h | h | h | h | h | h | h | h | h | h | h | h | h | h | h | h | h | h | h | h <;> (subst h; decide)
  rw [List.getD_eq_getElem?_getD]
  cases hx : named[i]? with
  | none => decide
  | some x => exact h x (List.mem_of_getElem? hx)
theorem plain_rune (x : Int) : runesBytes [x] = Utf8.encode x := by
  unfold runesBytes
  simp only [List.foldl_cons, List.foldl_nil]
  exact bytes_ext (by rw [app_list]; rfl)
/-- What follows the names. -/
def refEnd (k : Nat) (s : ByteArray) (at_ : Int) (attr : Bool) (a : ByteArray × Int × Int) : Option (ByteArray × Int × Int) :=
  if a.2.2 = 0 then (portiereref04_Take.j5 k s at_ a.2.1 a.1 a.2.2 false) else (if attr = true then (portiereref04_Take.j5 k s at_ a.2.1 a.1 a.2.2 (decide ((wrap64 (at_ + a.2.1)) < (s.size : Int)))) else (portiereref04_Take.j5 k s at_ a.2.1 a.1 a.2.2 false))
theorem ref_names (s : ByteArray) (at_ : Nat) (attr : Bool) (T : List UInt8) (hd : s.data.toList.drop (at_ + 1) = T) (ha : at_ < s.size) (hs : s.size ≤ 140737488351232) : ∀ (d j : Nat) (a : ByteArray × Int × Int) (k : Nat), j + d = 22 → 3 * d + 3 ≤ k →
    ∃ k', k ≤ k' + 3 * d + 1 ∧ portiereref04_Take.l0 k s at_ attr a.2.1 a.1 a.2.2 j = refEnd k' s at_ attr ((named.drop j).foldl (nameStep T) a) := by
  intro d
  induction d with
  | zero =>
    intro j a k hj hk
    obtain ⟨k, rfl⟩ : ∃ m, k = m + 1 := ⟨k - 1, by omega⟩
    refine ⟨k, by omega, ?_⟩
    simp only [portiereref04_Take.l0]
    rw [if_neg (by omega), List.drop_of_length_le (by simp [named]; omega)]
    rfl
  | succ d ih =>
    intro j a k hj hk
    obtain ⟨k, rfl⟩ : ∃ m, k = m + 1 := ⟨k - 1, by omega⟩
    have hl : T.length + at_ + 1 = s.size := by rw [← hd, List.length_drop, ← size_list]; omega
    have hz := named_small j
    have hcode := ref_code j (by omega)
    rw [named_at j (by omega), List.foldl_cons]
    generalize named.getD j nm0 = x at *
    obtain ⟨nm, code, bare⟩ := x
    simp only at hcode hz
    have W1 : Aside0 (wrap64 ((at_ : Int) + 1) = ((at_ + 1 : Nat) : Int)) := ⟨by rw [wrap64_id] <;> omega⟩
    have W2 : Aside0 (wrap64 (1 + (nm.size : Int)) = ((1 + nm.size : Nat) : Int)) := ⟨by rw [wrap64_id] <;> omega⟩
    have W3 : Aside0 (wrap64 (((1 + nm.size : Nat) : Int) + 1) = ((1 + nm.size : Nat) : Int) + 1) := ⟨by rw [wrap64_id] <;> omega⟩
    have W5 : Aside0 (wrap64 ((j : Int) + 1) = ((j + 1 : Nat) : Int)) := ⟨by rw [wrap64_id] <;> omega⟩
    simp only [portiereref04_Take.l0]
    rw [if_pos (by omega), hcode]
    rw [Option.bind_some]
    simp only
    rw [W1.out, ref_starts s (at_ + 1) nm (by omega) hs (by omega), hd]
    rw [Option.bind_some]
    have hst : nameStep T a (nm, code, bare) = (if nm.data.toList.isPrefixOf T = true then
        (if (((T.drop nm.size).head? == some 59) = true ∨ bare = true) ∧ a.2.1 < 1 + nm.size + (if ((T.drop nm.size).head? == some 59) = true then 1 else 0) then
          (Utf8.encode code, 1 + (nm.size : Int) + (if ((T.drop nm.size).head? == some 59) = true then 1 else 0), if ((T.drop nm.size).head? == some 59) = true then 0 else 1) else a) else a) := rfl
    rw [hst]
    clear hst
    by_cases hp : nm.data.toList.isPrefixOf T = true
    · have hnl : nm.size ≤ T.length := by
        have := (List.isPrefixOf_iff_prefix.1 hp).length_le
        rw [size_list]; exact this
      have W4 : Aside0 (wrap64 ((at_ : Int) + ((1 + nm.size : Nat) : Int)) = ((at_ + (1 + nm.size) : Nat) : Int)) := ⟨by rw [wrap64_id] <;> omega⟩
      rw [if_pos hp, W2.out, W4.out, ref_starts s (at_ + (1 + nm.size)) ⟨#[59]⟩ (by omega) hs (by decide)]
      rw [Option.bind_some]
      have hsemi : (⟨#[59]⟩ : ByteArray).data.toList.isPrefixOf (s.data.toList.drop (at_ + (1 + nm.size))) = ((T.drop nm.size).head? == some 59) := by
        rw [← hd, List.drop_drop, show at_ + 1 + nm.size = at_ + (1 + nm.size) by omega]
        exact head_prefix 59 _
      rw [hsemi, W3.out, if_pos hp]
      have hn1 : ((1 + nm.size : Nat) : Int) = 1 + (nm.size : Int) := by omega
      rw [hn1]
      generalize ((T.drop nm.size).head? == some 59) = b
      clear hsemi hcode
      have go : ∀ (a' : ByteArray × Int × Int) (k : Nat), 3 * d + 3 ≤ k → ∃ k', k ≤ k' + 3 * d + 1 ∧ portiereref04_Take.l0 k s at_ attr a'.2.1 a'.1 a'.2.2 ((j + 1 : Nat) : Int) = refEnd k' s at_ attr ((named.drop (j + 1)).foldl (nameStep T) a') := fun a' k hk => ih (j + 1) a' k (by omega) hk
      have set : ∀ (k : Nat) (n : Int), 3 * d + 4 ≤ k → ∃ k', k ≤ k' + 3 * d + 2 ∧ portiereref04_Take.j4 k s at_ attr a.2.1 a.1 a.2.2 j code n b true = refEnd k' s at_ attr ((named.drop (j + 1)).foldl (nameStep T) (Utf8.encode code, n, if b = true then 0 else 1)) := by
        intro k n hk
        obtain ⟨k, rfl⟩ : ∃ m, k = m + 1 := ⟨k - 1, by omega⟩
        simp only [portiereref04_Take.j4]
        rw [if_pos trivial, Option.bind_some, plain_rune, W5.out]
        cases b
        · obtain ⟨k', h1, h2⟩ := go (Utf8.encode code, n, 1) k (by omega)
          exact ⟨k', by omega, by rw [if_neg (by simp)]; exact h2⟩
        · obtain ⟨k', h1, h2⟩ := go (Utf8.encode code, n, 0) k (by omega)
          exact ⟨k', by omega, by rw [if_pos rfl]; exact h2⟩
      have keep : ∀ (k : Nat) (n : Int), 3 * d + 4 ≤ k → ∃ k', k ≤ k' + 3 * d + 2 ∧ portiereref04_Take.j4 k s at_ attr a.2.1 a.1 a.2.2 j code n b false = refEnd k' s at_ attr ((named.drop (j + 1)).foldl (nameStep T) a) := by
        intro k n hk
        obtain ⟨k, rfl⟩ : ∃ m, k = m + 1 := ⟨k - 1, by omega⟩
        simp only [portiereref04_Take.j4]
        rw [if_neg (by simp), W5.out]
        obtain ⟨k', h1, h2⟩ := go a k (by omega)
        exact ⟨k', by omega, h2⟩
      have third : ∀ (k : Nat) (n : Int), 3 * d + 5 ≤ k → ∃ k', k ≤ k' + 3 * d + 3 ∧ portiereref04_Take.j3 k s at_ attr a.2.1 a.1 a.2.2 j code bare n b = refEnd k' s at_ attr ((named.drop (j + 1)).foldl (nameStep T) (if (b = true ∨ bare = true) ∧ a.2.1 < n then (Utf8.encode code, n, if b = true then 0 else 1) else a)) := by
        intro k n hk
        obtain ⟨k, rfl⟩ : ∃ m, k = m + 1 := ⟨k - 1, by omega⟩
        simp only [portiereref04_Take.j3]
        by_cases hgt : n > a.2.1
        · rw [if_pos hgt]
          by_cases hb : b = true
          · obtain ⟨k', h1, h2⟩ := set k n (by omega)
            exact ⟨k', by omega, by rw [if_pos hb, if_pos ⟨.inl hb, hgt⟩]; exact h2⟩
          · rw [if_neg hb]
            cases hbare : bare with
            | true =>
              obtain ⟨k', h1, h2⟩ := set k n (by omega)
              exact ⟨k', by omega, by rw [if_pos ⟨.inr rfl, hgt⟩]; exact h2⟩
            | false =>
              obtain ⟨k', h1, h2⟩ := keep k n (by omega)
              exact ⟨k', by omega, by rw [if_neg (by simp [hb])]; exact h2⟩
        · rw [if_neg hgt]
          obtain ⟨k', h1, h2⟩ := keep k n (by omega)
          exact ⟨k', by omega, by rw [if_neg (fun h => hgt h.2)]; exact h2⟩
      cases hbb : b with
      | true =>
        obtain ⟨k', h1, h2⟩ := third k (1 + (nm.size : Int) + 1) (by omega)
        rw [hbb] at h2
        exact ⟨k', by omega, by rw [if_pos rfl]; exact h2⟩
      | false =>
        obtain ⟨k', h1, h2⟩ := third k (1 + (nm.size : Int)) (by omega)
        rw [hbb] at h2
        have e0 : (1 + (nm.size : Int) + (if (false = true) then (1 : Int) else 0)) = 1 + nm.size := by simp
        exact ⟨k', by omega, by rw [if_neg (show ¬ (false = true) by simp), e0]; exact h2⟩
    · rw [if_neg hp, if_neg hp, W5.out]
      obtain ⟨k', h1, h2⟩ := ih (j + 1) a k (by omega) (by omega)
      exact ⟨k', by omega, h2⟩

theorem ref_j5_no (k : Nat) (s : ByteArray) (at_ n f : Int) (tx : ByteArray) : portiereref04_Take.j5 (k + 1) s at_ n tx f false = some (tx, n, f) := by
  simp only [portiereref04_Take.j5]
  rw [if_neg (by simp)]
theorem ref_j5_yes (k : Nat) (s : ByteArray) (at_ n f : Int) (tx : ByteArray) (m : Int) (hm : wrap64 (at_ + n) = m) (h0 : 0 ≤ m) (h1 : m < s.size) :
    portiereref04_Take.j5 (k + 1) s at_ n tx f true = some (if wordB (bt s m) = true then ((⟨#[]⟩ : ByteArray), 0, 0) else (tx, n, f)) := by
  simp only [portiereref04_Take.j5]
  rw [if_pos trivial, hm, if_pos h0, if_pos h1]
  generalize bt s m = c
  clear hm h0 h1 m
  unfold wordB
  repeat' split
  all_goals first | rfl | (exfalso; simp_all; omega) | (exfalso; simp_all)
theorem nameFold_fault (T : List UInt8) (xs : List (ByteArray × Int × Bool)) : ∀ a : ByteArray × Int × Int, (0 ≤ a.2.1 ∧ (a.2.2 = 0 ∨ 1 ≤ a.2.1)) → (0 ≤ (xs.foldl (nameStep T) a).2.1 ∧ ((xs.foldl (nameStep T) a).2.2 = 0 ∨ 1 ≤ (xs.foldl (nameStep T) a).2.1)) := by
  induction xs with
  | nil => intro a h; exact h
  | cons x xs ih =>
    intro a h
    refine ih _ ?_
    unfold nameStep
    split
    · generalize ((T.drop x.1.size).head? == some 59) = b
      cases b
      · simp only [Bool.false_eq_true, if_false]
        split
        · exact ⟨by simp only; omega, .inr (by simp only; omega)⟩
        · exact h
      · simp only [if_true]
        split
        · exact ⟨by simp only; omega, .inr (by simp only; omega)⟩
        · exact h
    · exact h
theorem ref_end (s : ByteArray) (at_ : Nat) (attr : Bool) (T : List UInt8) (hd : s.data.toList.drop (at_ + 1) = T) (ha : at_ < s.size) (hs : s.size ≤ 140737488351232) (k : Nat) :
    refEnd (k + 1) s at_ attr (named.foldl (nameStep T) (⟨#[]⟩, 0, 0)) = some (nameRef T attr) := by
  have hb := nameFold_bound T named (⟨#[]⟩, 0, 0) ⟨by simp, by simp; omega, by decide⟩
  have hf := nameFold_fault T named (⟨#[]⟩, 0, 0) ⟨by simp, .inl rfl⟩
  have hl : T.length + at_ + 1 = s.size := by rw [← hd, List.length_drop, ← size_list]; omega
  unfold refEnd nameRef
  simp only
  generalize named.foldl (nameStep T) (⟨#[]⟩, 0, 0) = a at *
  obtain ⟨tx, n, f⟩ := a
  simp only at hb hf ⊢
  by_cases h0 : f = 0
  · rw [if_pos h0, ref_j5_no, if_neg (by simp [h0])]
  · rw [if_neg h0]
    cases attr with
    | false => rw [if_neg (by simp), ref_j5_no, if_neg (by simp)]
    | true =>
      rw [if_pos rfl]
      have hn : 1 ≤ n := by omega
      have hn2 : n ≤ T.length + 1 := hb.2.1
      have W : Aside0 (wrap64 ((at_ : Int) + n) = (at_ : Int) + n) := ⟨by rw [wrap64_id] <;> omega⟩
      by_cases hlt : (at_ : Int) + n < s.size
      · rw [W.out, show decide ((at_ : Int) + n < s.size) = true from decide_eq_true hlt, ref_j5_yes k s at_ n f tx _ W.out (by omega) hlt]
        obtain ⟨m, hm⟩ : ∃ m : Nat, n = m + 1 := ⟨(n - 1).toNat, by omega⟩
        have hml : m < T.length := by omega
        have hdr : T.drop (n - 1).toNat = T[m] :: T.drop (m + 1) := by
          rw [show (n - 1).toNat = m by omega, List.drop_eq_getElem_cons hml]
        have hdd : s.data.toList.drop (at_ + 1 + m) = T[m] :: T.drop (m + 1) := by
          rw [← List.drop_drop, hd, List.drop_eq_getElem_cons hml]
        have hbt := (bt_drop hdd).1
        rw [show (((at_ + 1 + m : Nat)) : Int) = (at_ : Int) + n by omega] at hbt
        rw [hdr, hbt]
        simp only
        congr 1
        by_cases hw : wordB (T[m].toNat : Int) = true
        · rw [if_pos hw, if_pos ⟨trivial, h0, hw⟩]
        · rw [if_neg hw, if_neg (fun h => hw h.2.2)]
      · rw [W.out, show decide ((at_ : Int) + n < s.size) = false from decide_eq_false hlt, ref_j5_no, List.drop_of_length_le (by omega), if_neg (by simp)]
theorem ref_Take (s : ByteArray) (i : Int) (attr : Bool) (hs : s.size ≤ 140737488351232) (k : Nat) (hk : s.size + 100 ≤ k) : portiereref04_Take.f k s i attr = some (takeOf s i attr) := by
  obtain ⟨k, rfl⟩ : ∃ m, k = m + 1 := ⟨k - 1, by omega⟩
  have bad : portiereref04_Take.j0 (k + 1) s i attr true = some ((⟨#[]⟩ : ByteArray), 0, 0) := by
    simp only [portiereref04_Take.j0]
    rw [if_pos trivial]
  unfold portiereref04_Take.f takeOf
  by_cases h0 : i < 0
  · rw [if_pos h0, bad, if_pos (.inl h0)]
  rw [if_neg h0]
  by_cases h1 : i ≥ (s.size : Int)
  · rw [if_pos h1, bad, if_pos (.inr h1)]
  rw [if_neg h1, if_pos (by omega), if_pos (by omega), if_neg (by omega)]
  obtain ⟨at_, rfl⟩ : ∃ m : Nat, i = m := ⟨i.toNat, by omega⟩
  rw [Int.toNat_natCast]
  have ha : at_ < s.size := by omega
  cases hd : s.data.toList.drop at_ with
  | nil => have := drop_nil hd; omega
  | cons c T =>
    obtain ⟨hbt, _, hd1⟩ := bt_drop hd
    rw [hbt]
    by_cases hc : c = 38
    · subst hc
      have e : (((38 : UInt8).toNat : Int) != 38) = false := rfl
      rw [e]
      have g0 : portiereref04_Take.j0 (k + 1) s at_ attr false = if (wrap64 ((at_ : Int) + 1)) < (s.size : Int) then (if 0 ≤ (wrap64 ((at_ : Int) + 1)) then (portiereref04_Take.j1 k s at_ attr ((bt s (wrap64 ((at_ : Int) + 1))) == 35)) else (none)) else (portiereref04_Take.j1 k s at_ attr false) := by
        simp only [portiereref04_Take.j0]
        rw [if_neg (by simp)]
      rw [g0]
      clear g0 bad
      obtain ⟨k, rfl⟩ : ∃ m, k = m + 1 := ⟨k - 1, by omega⟩
      have num : ∀ t, T = 35 :: t → portiereref04_Take.j1 (k + 1) s at_ attr true = some (numRef t) := by
        intro t ht
        have hl : t.length + 2 + at_ = s.size := by
          have := congrArg List.length hd
          rw [List.length_drop, ← size_list, ht] at this
          simp at this
          omega
        simp only [portiereref04_Take.j1]
        rw [if_pos trivial, ref_numeric s at_ t (by rw [hd, ht]) hs k (by omega)]
        rfl
      have nam : portiereref04_Take.j1 (k + 1) s at_ attr false = some (nameRef T attr) := by
        simp only [portiereref04_Take.j1]
        rw [if_neg (by simp)]
        obtain ⟨k', h1, h2⟩ := ref_names s at_ attr T hd1 ha hs 22 0 (⟨#[]⟩, 0, 0) k (by omega) (by omega)
        obtain ⟨k2, rfl⟩ : ∃ m, k' = m + 1 := ⟨k' - 1, by omega⟩
        have h3 := h2.trans (ref_end s at_ attr T hd1 ha hs k2)
        exact h3
      have W : Aside0 (wrap64 ((at_ : Int) + 1) = ((at_ + 1 : Nat) : Int)) := ⟨by rw [wrap64_id] <;> omega⟩
      rw [W.out]
      cases T with
      | nil =>
        have := drop_nil hd1
        rw [if_neg (by omega), nam]
        rfl
      | cons c2 t =>
        obtain ⟨hbt2, hlt2, _⟩ := bt_drop hd1
        rw [if_pos (by omega), if_pos (by omega), hbt2]
        by_cases h35 : c2 = 35
        · subst h35
          rw [show (((35 : UInt8).toNat : Int) == 35) = true from rfl, num t rfl]
          rfl
        · have : ((c2.toNat : Int) == 35) = false := by
            rw [beq_eq_false_iff_ne]
            intro h
            exact h35 (UInt8.toNat_inj.1 (by have : (35 : UInt8).toNat = 35 := rfl; omega))
          rw [this, nam]
          unfold refAt
          split
          · rename_i h; injection h with _ h; injection h with h; exact absurd h h35
          · rename_i h; injection h with _ h; rw [h]
          · rename_i h; exact absurd rfl (h (c2 :: t))
    · have : ((c.toNat : Int) != 38) = true := by
        rw [bne_iff_ne]
        intro h
        exact hc (UInt8.toNat_inj.1 (by have : (38 : UInt8).toNat = 38 := rfl; omega))
      rw [this, bad]
      unfold refAt
      split
      · rename_i h; injection h with h; exact absurd h hc
      · rename_i h; injection h with h; exact absurd h hc
      · rfl
theorem textOf_list (l : List UInt8) : (textOf l).data.toList = l := by unfold textOf; simp
theorem ref_All_loop (s : ByteArray) (attr : Bool) (hs : s.size ≤ 1048576) : ∀ (n : Nat) (l : List UInt8), l.length ≤ n → ∀ (i : Nat) (out : ByteArray) (k : Nat), s.data.toList.drop i = l → i ≤ s.size → out.size ≤ 4 * i → l.length + s.size + 200 ≤ k →
    portiereref04_All.l0 k s attr out i = some (out ++ textOf (allOf l.length l attr)) := by
  intro n
  induction n with
  | zero =>
    intro l hn i out k hd hi ho hk
    obtain rfl : l = [] := List.eq_nil_of_length_eq_zero (by omega)
    obtain ⟨k, rfl⟩ : ∃ m, k = m + 1 := ⟨k - 1, by omega⟩
    simp only [portiereref04_All.l0]
    rw [if_neg (by have := drop_nil hd; omega)]
    congr 1
    exact bytes_ext (by rw [app_list, textOf_list]; simp [allOf])
  | succ n ih =>
    intro l hn i out k hd hi ho hk
    cases l with
    | nil => exact ih [] (by simp) i out k hd hi ho hk
    | cons c l =>
      obtain ⟨hbt, hlt, hd1⟩ := bt_drop hd
      obtain ⟨k, rfl⟩ : ∃ m, k = m + 1 := ⟨k - 1, by omega⟩
      simp only [portiereref04_All.l0]
      rw [if_pos (by omega), ref_Take s i attr (by omega) k (by simp at hk; omega)]
      have ht : takeOf s i attr = refAt (c :: l) attr := by
        unfold takeOf
        rw [if_neg (by omega), Int.toNat_natCast, hd]
      rw [ht, Option.bind_some, List.length_cons, allOf_cons]
      have hbd := refAt_bound (c :: l) attr
      have hll : l.length + 1 + i = s.size := by
        have := congrArg List.length hd
        rw [List.length_drop, ← size_list] at this
        simp at this
        omega
      generalize refAt (c :: l) attr = z at *
      obtain ⟨t, m, f⟩ := z
      simp only at hbd ⊢
      rw [List.length_cons] at hbd
      by_cases hm : m > 0
      · obtain ⟨m', rfl⟩ : ∃ m' : Nat, m = m' := ⟨m.toNat, by omega⟩
        have W : Aside0 (wrap64 ((i : Int) + (m' : Int)) = ((i + m' : Nat) : Int)) := ⟨by rw [wrap64_id] <;> omega⟩
        rw [if_pos hm, if_pos (by omega), W.out, if_pos (by omega), Int.toNat_natCast]
        have hlen : ((c :: l).drop m').length ≤ l.length := by simp; omega
        rw [ih ((c :: l).drop m') (by simp at hn; omega) (i + m') (out ++ t) k (by rw [← hd, List.drop_drop]) (by omega) (by rw [ByteArray.size_append]; omega) (by simp at hk; omega)]
        congr 1
        exact bytes_ext (by rw [app_list, app_list, app_list, textOf_list, textOf_list, List.append_assoc])
      · rw [if_neg hm, if_neg hm]
        have W : Aside0 (wrap64 ((i : Int) + 1) = ((i + 1 : Nat) : Int)) := ⟨by rw [wrap64_id] <;> omega⟩
        rw [W.out, if_pos (by omega), if_pos (by omega), if_pos (by omega), if_pos (by rw [Int.toNat_natCast, Int.toNat_natCast]; omega), Int.toNat_natCast, Int.toNat_natCast]
        have hext : (s.extract i (i + 1)).data.toList = [c] := by
          rw [ext_list, hd, show i + 1 - i = 1 by omega]
          rfl
        rw [ih l (by simp at hn; omega) (i + 1) (out ++ s.extract i (i + 1)) k hd1 (by omega) (by rw [ByteArray.size_append, size_list (s.extract i (i + 1)), hext]; simp; omega) (by simp at hk; omega)]
        congr 1
        exact bytes_ext (by rw [app_list, app_list, app_list, textOf_list, textOf_list, hext]; simp)
theorem ref_All (s : ByteArray) (attr : Bool) (hs : s.size ≤ 1048576) (k : Nat) (hk : 2 * s.size + 200 ≤ k) : portiereref04_All.f k s attr = some (textOf (allOf s.size s.data.toList attr)) := by
  unfold portiereref04_All.f
  have h := ref_All_loop s attr hs s.size s.data.toList (by rw [← size_list]; omega) 0 ⟨#[]⟩ k rfl (by omega) (by decide) (by rw [← size_list]; omega)
  rw [← size_list] at h
  have e : (⟨#[]⟩ : ByteArray) ++ textOf (allOf s.size s.data.toList attr) = textOf (allOf s.size s.data.toList attr) := bytes_ext (by rw [app_list]; rfl)
  rw [e] at h
  exact h

end Go.Proofs.Ytebcdfdkgjcmmaa.RefCharref
