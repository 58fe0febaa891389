/- A text of characters comes back; cut short by a byte it is told, with one U+FFFD in place of what was cut: the law portierelaw01.InputRunes, for every input. -/
import Derived.Test.YtoejbjmdcokojaaDoorQx5
import Derived.Test.YtoejbjmdcokojaaDoorInQ
import Derived.Test.YtoejbjmdcokojaaDoorRefRunes
namespace Go.Proofs.YtoejbjmdcokojaaDoor.Pure
set_option linter.unusedVariables false
set_option linter.unusedSimpArgs false
open Go Go.RowKit Go.Proofs.YtoejbjmdcokojaaDoor.Q Go.Proofs.YtoejbjmdcokojaaDoor.Hand Go.Proofs.YtoejbjmdcokojaaDoor.InLaws Go.Proofs.YtoejbjmdcokojaaDoor.InQ Go.Proofs.YtoejbjmdcokojaaDoor.RefRunes Go.Proofs.YtoejbjmdcokojaaDoorW.PrintWords Go.Proofs.YtoejbjmdcokojaaDoorW.PrintLast Go.Proofs.YtoejbjmdcokojaaDoorW.PrintMore

def kp (n : Int) : Int := if n < 0 ∨ 1114111 < n ∨ (55296 ≤ n ∧ n ≤ 57343) ∨ n = 13 ∨ n = 65279 then 120 else n
theorem kp_kept (n : Int) : KeptR (kp n) := by
  unfold kp KeptR Fine
  split <;> omega
theorem rd_int {l : List Int} {i : Nat} {c : Int} {t : List Int} (h : l.drop i = c :: t) : rd l i = c ∧ i < l.length ∧ l.drop (i + 1) = t := by
  have hi : i < l.length := by
    rcases Nat.lt_or_ge i l.length with h1 | h1
    · exact h1
    · rw [List.drop_of_length_le h1] at h; cases h
  rw [List.drop_eq_getElem_cons hi] at h
  injection h with h1 h2
  refine ⟨?_, hi, h2⟩
  unfold rd
  rw [Int.toNat_natCast, List.getD_eq_getElem?_getD, List.getElem?_eq_getElem hi, Option.getD_some, h1]
theorem runes_loop (x : List Int) (b : Bool) (hx : x.length ≤ 500) : ∀ (u a : List Int) (i k : Nat), x.drop i = u → i + u.length = x.length → a.length ≤ i → u.length + 1 ≤ k →
    portierelaw01_InputRunes.l0 k x b a i = portierelaw01_InputRunes.l0 (k - u.length) x b (a ++ u.map kp) x.length := by
  intro u
  induction u with
  | nil =>
    intro a i k hd hi ha hk
    simp only [List.length_nil, Nat.add_zero] at hi
    rw [hi]
    simp
  | cons c u ih =>
    intro a i k hd hi ha hk
    obtain ⟨k, rfl⟩ : ∃ m, k = m + 1 := ⟨k - 1, by omega⟩
    obtain ⟨hrd, hlt, hd1⟩ := rd_int hd
    simp only [List.length_cons] at hk hi
    have hw : Aside0 (wrap64 ((i : Int) + 1) = ((i + 1 : Nat) : Int)) := ⟨by rw [wrap64_id] <;> omega⟩
    have go : ∀ d : Int, d = kp c → portierelaw01_InputRunes.l0 k x b (a ++ [d]) ((i + 1 : Nat) : Int) = portierelaw01_InputRunes.l0 (k + 1 - (u.length + 1)) x b (a ++ (c :: u).map kp) x.length := by
      rintro d rfl
      rw [ih (a ++ [kp c]) (i + 1) k hd1 (by omega) (by simp; omega) (by omega), Nat.add_sub_add_right]
      simp
    have bad : (c < 0 ∨ 1114111 < c ∨ (55296 ≤ c ∧ c ≤ 57343) ∨ c = 13 ∨ c = 65279) → (if a.length < 35184372088832 then portierelaw01_InputRunes.l0 k x b (a ++ [120]) ((i + 1 : Nat) : Int) else none) = portierelaw01_InputRunes.l0 (k + 1 - (u.length + 1)) x b (a ++ (c :: u).map kp) x.length := by
      intro h
      rw [if_pos (by omega)]
      exact go _ (by unfold kp; rw [if_pos h])
    have good : ¬ (c < 0 ∨ 1114111 < c ∨ (55296 ≤ c ∧ c ≤ 57343) ∨ c = 13 ∨ c = 65279) → (if a.length < 35184372088832 then portierelaw01_InputRunes.l0 k x b (a ++ [c]) ((i + 1 : Nat) : Int) else none) = portierelaw01_InputRunes.l0 (k + 1 - (u.length + 1)) x b (a ++ (c :: u).map kp) x.length := by
      intro h
      rw [if_pos (by omega)]
      exact go _ (by unfold kp; rw [if_neg h])
    simp only [portierelaw01_InputRunes.l0]
    rw [if_pos (by omega), if_pos (by omega), hrd, hw.out, List.length_cons]
    by_cases c1 : c < 0
    · rw [if_pos c1]; exact bad (by omega)
    · rw [if_neg c1]
      by_cases c2 : c > 1114111
      · rw [if_pos c2]; exact bad (by omega)
      · rw [if_neg c2]
        by_cases c3 : c ≥ 55296
        · rw [if_pos c3]
          by_cases c4 : c ≤ 57343
          · rw [if_pos c4]; exact bad (by omega)
          · rw [if_neg c4]
            by_cases c5 : c = 13
            · rw [if_pos c5]; exact bad (by omega)
            · rw [if_neg c5]
              by_cases c6 : c = 65279
              · rw [if_pos c6]; exact bad (by omega)
              · rw [if_neg c6]; exact good (by omega)
        · rw [if_neg c3]
          by_cases c5 : c = 13
          · rw [if_pos c5]; exact bad (by omega)
          · rw [if_neg c5]
            by_cases c6 : c = 65279
            · rw [if_pos c6]; exact bad (by omega)
            · rw [if_neg c6]; exact good (by omega)

theorem runes_str (x : List Int) : runesBytes x = ⟨(rl x).toArray⟩ := (str_list (runesBytes x)).symm
theorem runes_size (x : List Int) : (runesBytes x).size = (rl x).length := (data_len (runesBytes x)).symm
theorem runes_toList (x : List Int) : (runesBytes x).toList = rl x := by rw [toList_data]; rfl

theorem InputRunes : portierelaw01_InputRunes.Pure := by
  intro l b _ _ _
  refine ⟨l.length + 3, ?_⟩
  obtain ⟨k, hk⟩ : ∃ k, k = l.length + 2 := ⟨_, rfl⟩
  rw [show l.length + 3 = k + 1 by omega]
  unfold portierelaw01_InputRunes.f
  by_cases hs : (l.length : Int) > 500
  · rw [if_pos hs]
    simp only [portierelaw01_InputRunes.j0]
    rw [if_pos trivial, known_f, Option.bind_some]
  · rw [if_neg hs, known_f, Option.bind_some]
    simp only [portierelaw01_InputRunes.j0]
    rw [if_neg (by decide)]
    have h := runes_loop l b (by omega) l [] 0 k rfl (by omega) (Nat.le_refl _) (by omega)
    obtain ⟨m, hm⟩ : ∃ m, k - l.length = m + 1 := ⟨1, by omega⟩
    rw [hm] at h
    refine Eq.trans h ?_
    rw [List.nil_append]
    obtain ⟨x, hx⟩ : ∃ x, x = l.map kp := ⟨_, rfl⟩
    have hkept : ∀ n ∈ x, KeptR n := by
      intro n hn
      rw [hx] at hn
      obtain ⟨c, _, rfl⟩ := List.mem_map.1 hn
      exact kp_kept c
    have hlen : x.length = l.length := by rw [hx, List.length_map]
    have hrl := rl_len x
    rw [← hx]
    clear h
    simp only [portierelaw01_InputRunes.l0]
    rw [if_neg (by omega), decodeS_f _ (by rw [runes_size]; omega), Option.bind_some]
    have eb := back hkept
    rw [show decodeL (runesBytes x).data.toList = rl x from eb, InQ.str_toList, runes_toList, if_pos rfl]
    by_cases hb : b = true
    · rw [if_pos hb]
      rcases List.eq_nil_or_concat x with rfl | ⟨y, n, rfl⟩
      · rw [if_pos (show (([] : List Int).length : Int) = 0 from rfl)]
      · rw [List.concat_eq_append] at *
        have hyl : (y ++ [n]).length = y.length + 1 := by simp
        have hW : Aside0 (wrap64 (((y ++ [n]).length : Int) - 1) = (y.length : Int)) := ⟨by rw [wrap64_id] <;> omega⟩
        have hn : rd (y ++ [n]) y.length = n := (rd_int (t := []) (by simp)).1
        have hy : ∀ m ∈ y, KeptR m := fun m hm => hkept m (by simp [hm])
        have hkn := hkept n (by simp)
        rw [if_neg (by omega), hW.out, if_pos (by omega), if_pos (by omega), hn]
        by_cases h128 : n < 128
        · rw [if_pos h128]
        · rw [if_neg h128]
          obtain ⟨c, f, e⟩ := enc_is n hkn.1
          have hpos : 1 ≤ (rl (y ++ [n])).length := by
            rw [rl_app, List.length_append, rl_cons, e.is, List.length_append, List.length_cons]; omega
          have hc := RefRunes.cut hy hkn (by omega)
          rw [List.dropLast_eq_take] at hc
          obtain ⟨z, hz⟩ : ∃ z, (rl (y ++ [n])).length = z + 1 := ⟨(rl (y ++ [n])).length - 1, by omega⟩
          have hZ : Aside0 (wrap64 (((runesBytes (y ++ [n])).size : Int) - 1) = (z : Int)) := ⟨by rw [runes_size, wrap64_id] <;> omega⟩
          have hyr := rl_len y
          have hex : ((runesBytes (y ++ [n])).extract 0 z).data.toList = (rl (y ++ [n])).take z := by rw [Lib.extract_data]; rfl
          have hsz : ((runesBytes (y ++ [n])).extract 0 z).size ≤ 1048576 := by rw [← data_len, hex, List.length_take]; omega
          rw [hz, Nat.add_sub_cancel] at hc
          rw [hZ.out, if_pos (by omega), if_pos (by rw [runes_size]; omega), Int.toNat_natCast, decodeS_f _ hsz, Option.bind_some, hex, hc, if_pos (by omega), Int.toNat_natCast, Option.bind_some]
          rw [show (y ++ [n]).take y.length = y by simp, if_pos (by rw [runes_size]; omega), InQ.str_toList, runes_str y, show (⟨#[239, 191, 189]⟩ : ByteArray) = ⟨(fffd.data.toList).toArray⟩ from rfl, str_app, InQ.str_toList, beq_self_eq_true]
    · rw [if_neg hb]
end Go.Proofs.YtoejbjmdcokojaaDoor.Pure
