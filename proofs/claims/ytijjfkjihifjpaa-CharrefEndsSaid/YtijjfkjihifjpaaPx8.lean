-- Written by wip/tools/gprint.py of this session, over the kit's print. Lean checks it.
import Derived.Test.YtijjfkjihifjpaaPx0
import Derived.Test.YtijjfkjihifjpaaPx1
import Derived.Test.YtijjfkjihifjpaaPx2
import Derived.Test.YtijjfkjihifjpaaPx4
import Derived.Test.YtijjfkjihifjpaaPx5
import Derived.Test.YtijjfkjihifjpaaPx6
import Derived.Test.YtijjfkjihifjpaaPx7
namespace Go.Proofs.Ytijjfkjihifjpaa.P
open Go.Proofs.Ytijjfkjihifjpaa.Hand
open Go.RowKit Go.Proofs.YtijjfkjihifjpaaW.PrintWords Go.Proofs.YtijjfkjihifjpaaW.PrintLast Go.Proofs.YtijjfkjihifjpaaW.PrintMore
attribute [local go_sem] max2_int min2_int max_two min_two max_three min_three max_four min_four   -- for this text's walks alone
attribute [local go_sem] Go.IntKind.wrap_u32
set_option linter.unusedVariables false
set_option linter.unusedSimpArgs false

/-! ### charref_Take: function 13 (by hand) -/
theorem hasPrefix_of (s p : ByteArray) : strings_HasPrefix.f s p = some (p.data.toList.isPrefixOf s.data.toList) := by
  unfold strings_HasPrefix.f stringslite_HasPrefix.f
  have hs := size_list s
  have hp := size_list p
  by_cases h : (s.size : Int) ≥ (p.size : Int)
  · rw [if_pos h, if_pos (by omega), if_pos (by omega)]
    simp only [Option.bind_some]
    rw [toList_data, toList_data, ext_list, Int.toNat_natCast]
    simp only [List.drop_zero, Nat.sub_zero]
    rw [hp, prefix_take (by omega)]
  · rw [if_neg h]
    simp only [Option.bind_some]
    rw [prefix_long (by omega)]
theorem numeric_of (s : ByteArray) (t : List UInt8) (hs : s.data.toList = 38 :: 35 :: t) (hl : s.size ≤ 140737488351232) : charref_numeric.f 2 s = some (numRef t) := by
  have hsz : s.size = t.length + 2 := by rw [size_list, hs]; simp
  have core : ∀ (r : ByteArray) (base x : Int), (base = 10 ∨ base = 16) → 0 ≤ x → x ≤ 1 → r.size + x = t.length → charref_numeric.j1 (0 + 1) s r base =
      some (if (digitsOf r.data.toList base 0 0).1 = 0 then ((⟨#[]⟩ : ByteArray), (0 : Int), (0 : Int)) else
      ((pointOf (digitsOf r.data.toList base 0 0).2).1, 2 + x + (digitsOf r.data.toList base 0 0).1 + (if ((r.data.toList.drop (digitsOf r.data.toList base 0 0).1.toNat).head? == some 59) = true then 1 else 0),
        if ((r.data.toList.drop (digitsOf r.data.toList base 0 0).1.toNat).head? == some 59) = true then (pointOf (digitsOf r.data.toList base 0 0).2).2 else if (pointOf (digitsOf r.data.toList base 0 0).2).2 = 0 then 1 else (pointOf (digitsOf r.data.toList base 0 0).2).2)) := by
    intro r base x hb hx0 hx1 hr
    have hdf : charref_digits.f r base = some (digitsOf r.data.toList base 0 0) := by
      unfold charref_digits.f
      rw [if_pos ⟨by omega, hb⟩]
    simp only [charref_numeric.j1]
    rw [hdf]
    simp only [Option.bind_some]
    clear hdf
    have hd := digitsOf_bound r.data.toList base 0 0
    have hn := digitsOf_num r.data.toList base 0 0 (by omega) (by omega) (by omega)
    rw [← size_list] at hd
    generalize digitsOf r.data.toList base 0 0 = kn at *
    obtain ⟨kk, n⟩ := kn
    simp only at hd hn ⊢
    by_cases h0 : kk = 0
    · rw [if_pos h0, if_pos h0]
    · rw [if_neg h0, if_neg h0]
      have hpf : charref_point.f n = some (pointOf n) := by
        unfold charref_point.f
        rw [if_pos (by omega)]
      rw [hpf]
      simp only [Option.bind_some]
      rw [if_pos (by omega), if_pos (by omega), hasPrefix_of, ext_from]
      simp only [Option.bind_some]
      rw [head_prefix]
      have w1 : wrap64 ((s.size : Int) - (r.size : Int)) = 2 + x := by rw [wrap64_id] <;> omega
      have w2 : wrap64 (2 + x + kk) = 2 + x + kk := by rw [wrap64_id] <;> omega
      have w3 : wrap64 (2 + x + kk + 1) = 2 + x + kk + 1 := by rw [wrap64_id] <;> omega
      rw [w1, w2, w3]
      generalize ((r.data.toList.drop kk.toNat).head? == some 59) = b
      cases b
      · simp only [Bool.false_eq_true, if_false, Int.add_zero]
        split <;> rfl
      · simp only [if_true]
  show charref_numeric.f (0 + 1 + 1) s = _
  unfold charref_numeric.f
  rw [if_pos (by omega), hasPrefix_of, hasPrefix_of]
  simp only [Option.bind_some]
  have he : (s.extract 2 s.size).data.toList = t := by rw [ext_from, hs]; rfl
  have hes : (s.extract 2 s.size).size = t.length := by rw [size_list, he]
  rw [he]
  rw [show (⟨#[120]⟩ : ByteArray).data.toList.isPrefixOf t = (t.head? == some 120) from head_prefix 120 t, show (⟨#[88]⟩ : ByteArray).data.toList.isPrefixOf t = (t.head? == some 88) from head_prefix 88 t]
  have hex : ∀ b : Bool, b = true → (t ≠ []) → charref_numeric.j0 (0 + 1 + 1) s (s.extract 2 s.size) 10 b = charref_numeric.j1 (0 + 1) s ((s.extract 2 s.size).extract 1 (s.extract 2 s.size).size) 16 := by
    intro b hb ht
    simp only [charref_numeric.j0]
    have : 0 < t.length := List.length_pos_iff.2 ht
    rw [if_pos hb, if_pos (by omega)]
  have hdec : ∀ b : Bool, b = false → charref_numeric.j0 (0 + 1 + 1) s (s.extract 2 s.size) 10 b = charref_numeric.j1 (0 + 1) s (s.extract 2 s.size) 10 := by
    intro b hb
    simp only [charref_numeric.j0]
    rw [if_neg (by rw [hb]; simp)]
  have c16 : t ≠ [] → charref_numeric.j1 (0 + 1) s ((s.extract 2 s.size).extract 1 (s.extract 2 s.size).size) 16 = some _ := fun ht => (core ((s.extract 2 s.size).extract 1 (s.extract 2 s.size).size) 16 1 (.inr rfl) (by omega) (by omega) (by
    have : 0 < t.length := List.length_pos_iff.2 ht
    rw [size_list, ext_from, he, List.length_drop]; omega))
  have c10 : charref_numeric.j1 (0 + 1) s (s.extract 2 s.size) 10 = some _ := (core (s.extract 2 s.size) 10 0 (.inl rfl) (by omega) (by omega) (by omega))
  have he1 : ((s.extract 2 s.size).extract 1 (s.extract 2 s.size).size).data.toList = t.tail := by rw [ext_from, he]; simp
  unfold numRef
  by_cases hx : (t.head? == some 120) = true
  · have ht : t ≠ [] := by rintro rfl; simp at hx
    rw [if_pos hx, hex true rfl ht, c16 ht, he1]
    simp only [hx, Bool.true_or, if_true]
  · rw [if_neg hx]
    have hx' : (t.head? == some 120) = false := by simpa using hx
    by_cases hX : (t.head? == some 88) = true
    · have ht : t ≠ [] := by rintro rfl; simp at hX
      rw [hX, hex true rfl ht, c16 ht, he1]
      simp only [hx', Bool.false_or, if_true]
    · have hX' : (t.head? == some 88) = false := by simpa using hX
      rw [hX', hdec false rfl, c10, he]
      simp only [hx', Bool.false_or, Bool.false_eq_true, if_false]
theorem word_of (c : Int) : charref_word.f c = some (wordB c) := by
  unfold charref_word.f wordB
  repeat' split
  all_goals (congr 1; simp_all; try omega)
theorem named_get (i : Nat) (hi : i < 22) : named.drop i = named.getD i (⟨#[]⟩, 0, false) :: named.drop (i + 1) := by
  have h : i < named.length := by simp [named]; omega
  rw [List.drop_eq_getElem_cons h]
  simp [List.getD_eq_getElem?_getD, List.getElem?_eq_getElem h]
theorem named_size (i : Nat) : (named.getD i (⟨#[]⟩, 0, false)).1.size ≤ 6 := by
  have h : ∀ x ∈ named, x.1.size ≤ 6 := by
    unfold named
    simp only [List.mem_cons, List.not_mem_nil, or_false]
    intro x hx
    rcases hx with h | h | h | h | h | h | h | h | h | h | h | h | h | h | h | h | h | h | h | h | h | h <;> (subst h; decide)
  rw [List.getD_eq_getElem?_getD]
  cases hx : named[i]? with
  | none => decide
  | some x => exact h x (List.mem_of_getElem? hx)
theorem ret3_of {k k' : IntKind} {a b : ByteArray} {c d e f : Int} (h : (a, c, e) = (b, d, f)) : Ending.returned (.tuple #[.string a, .int k c, .int k' e]) = .returned (.tuple #[.string b, .int k d, .int k' f]) := by
  injection h with h1 h2; injection h2 with h2 h3; rw [h1, h2, h3]
set_option maxHeartbeats 4000000 in
set_option maxRecDepth 100000 in
theorem charref_Take.calls (a0 : ByteArray) (a1 : Int) (a2 : Bool) (r1 : ByteArray) (r2 : Int) (r3 : Int) (w : World) (h : charref_Take.f a0 a1 a2 = some (r1, r2, r3)) :
    Calls Try.prog 13 #[.string a0, .int .i64 a1, .bool a2] w fun e w' => e = .returned (.tuple #[.string r1, .int .i64 r2, .int .u8 r3]) ∧ Below w.heap.size w w' := by
  have hs : a0.size ≤ 140737488351232 := by
    unfold charref_Take.f at h
    split at h
    · assumption
    · cases h
  have he : takeOf a0 a1 a2 = (r1, r2, r3) := by
    unfold charref_Take.f at h
    rw [if_pos hs] at h
    exact Option.some.inj h
  clear h
  by_cases h0 : a1 < 0
  · unfold takeOf at he
    rw [if_pos (.inl h0)] at he
    have HE := Aside0.mk he
    clear he
    go_enter Try.func13, Try.ntmps13
    go_wp2
    go_ret3
    exact ⟨ret3_of HE.out, Below.refl _ _⟩
  by_cases h1 : (a0.size : Int) ≤ a1
  · unfold takeOf at he
    rw [if_pos (.inr h1)] at he
    have HE := Aside0.mk he
    clear he
    go_enter Try.func13, Try.ntmps13
    go_wp2
    go_ret3
    exact ⟨ret3_of HE.out, Below.refl _ _⟩
  have hp : 0 ≤ a1 := by omega
  have hq : a1 < (a0.size : Int) := by omega
  obtain ⟨at', hat⟩ : ∃ m : Nat, a1 = m := ⟨a1.toNat, by omega⟩
  have hlt : at' < a0.size := by omega
  have hL : a0.data.toList.drop at' = a0[at'] :: a0.data.toList.drop (at' + 1) := by
    rw [List.drop_eq_getElem_cons (by simpa using hlt)]; rfl
  have hbt : bt a0 a1 = (a0[at'].toNat : Int) := by
    rw [hat, bt_list, Int.toNat_natCast, List.getD_eq_getElem?_getD, List.getElem?_eq_getElem (by simpa using hlt), Option.getD_some]; rfl
  have hx := bt_at a0 a1
  have he2 : refAt (a0[at'] :: a0.data.toList.drop (at' + 1)) a2 = (r1, r2, r3) := by
    unfold takeOf at he
    rw [if_neg (by omega), hat, Int.toNat_natCast, hL] at he
    exact he
  clear he
  by_cases hc : bt a0 a1 = 38
  · have h38 : a0[at'] = 38 := by
      have h : (a0[at'].toNat : Int) = 38 := by rw [← hbt]; exact hc
      exact UInt8.toNat_inj.1 (by have h2 : (38 : UInt8).toNat = 38 := rfl; omega)
    have hc1 : (bt a0 a1 == 38) = true := beq_iff_eq.mpr hc
    have hc2 : (bt a0 a1 != 38) = false := bne_eq_false_iff_eq.mpr hc
    rw [h38] at hL he2
    obtain ⟨T, hT⟩ : ∃ T, T = a0.data.toList.drop (at' + 1) := ⟨_, rfl⟩
    rw [← hT] at hL he2
    have hTl : T.length + at' + 1 = a0.size := by rw [hT, List.length_drop, ← size_list]; omega
    have hS : (a0.extract a1.toNat a0.size).data.toList = 38 :: T := by rw [ext_from, hat, Int.toNat_natCast, hL]
    have HS := Aside0.mk hS
    have HR := Aside0.mk he2
    clear hc hbt hL h38 hT hat hS he2
    go_enter Try.func13, Try.ntmps13
    go_wp2_with fail
    generalize a0.extract a1.toNat a0.size = s' at *
    have hsl : s'.size = T.length + 1 := by rw [size_list, HS.out]; simp
    have hsz : s'.size ≤ 140737488351232 := by omega
    have HSL := Aside0.mk hsl
    clear hsl hTl hx hc1 hc2 hp hq h0 h1 hlt hs
    by_cases hn : T.head? = some 35
    · obtain ⟨T', rfl⟩ : ∃ T', T = 35 :: T' := by
        cases T with
        | nil => simp at hn
        | cons c T' => simp at hn; exact ⟨T', by rw [hn]⟩
      have hpre : Lib.hasPrefix s'.data.toList [38, 35] = true := by rw [HS.out]; rfl
      have hnum := numeric_of s' T' HS.out hsz
      have hr2 : numRef T' = (r1, r2, r3) := HR.out
      rw [hr2] at hnum
      have HN := Aside0.mk hnum
      clear hnum hr2 hn
      refine (Try.strings_HasPrefix s' _ _).mono ?_
      rintro e w' ⟨rfl, rfl⟩
      rw [hpre]
      clear hpre
      go_wp2_with (go_at_call 20; (with_reducible refine (charref_numeric.calls 2 s' r1 r2 r3 _ HN.out).mono ?_); rintro e w' ⟨rfl, hb⟩)
      go_ret3
      exact ⟨rfl, hb⟩
    · have hpre : Lib.hasPrefix s'.data.toList [38, 35] = false := by
        rw [HS.out]
        cases T with
        | nil => rfl
        | cons c T' =>
          simp at hn
          simp [Lib.hasPrefix, List.isPrefixOf]
          exact fun h => hn h.symm
      have hr2 : nameRef T a2 = (r1, r2, r3) := by
        have h := HR.out
        unfold refAt at h
        split at h
        · rename_i heq; injection heq with _ heq; subst heq; simp at hn
        · rename_i heq; injection heq with _ heq; subst heq; exact h
        · rename_i h2; exact absurd rfl (h2 T)
      have HR2 := Aside0.mk hr2
      clear hr2 HR hn
      refine (Try.strings_HasPrefix s' _ _).mono ?_
      rintro e w' ⟨rfl, rfl⟩
      rw [hpre]
      clear hpre
      go_wp2_with (go_at_call 21; (with_reducible refine (charref_all.calls _).mono ?_); rintro e w1 ⟨rfl, hb⟩)
      have HB0 := Aside0.mk hb
      clear hb
      go_loopg [6, 7, 8, 40] 22 (fun k v6 v7 v8 v40 wr => ∃ (i : Nat) (tx : ByteArray) (n f : Int), v40 = .int .i64 i ∧ v6 = .string tx ∧ v7 = .int .i64 n ∧ v8 = .int .u8 f ∧ i + k ≤ 22 ∧ 22 ≤ i + k ∧ 0 ≤ n ∧ n ≤ T.length + 1 ∧ 0 ≤ f ∧ f ≤ 1 ∧ f ≤ n ∧ Aside0 ((named.drop i).foldl (nameStep T) (tx, n, f) = named.foldl (nameStep T) (⟨#[]⟩, 0, 0)) ∧ Aside0 (Below w'.heap.size w' wr))
      case atStart => exact ⟨0, _, 0, 0, rfl, rfl, rfl, rfl, by omega, by omega, by omega, by omega, by omega, by omega, by omega, ⟨rfl⟩, HB0⟩
      case round =>
        clear HB0
        obtain ⟨i, tx, n, f, rfl, rfl, rfl, rfl, hi1, hi2, hn0, hn1, hf0, hf1, hfn1, HF, HB⟩ := hrel
        by_cases hi : i < 22
        · have hidx := fun w => named_idx w i hi
          have hF := HF.out
          rw [named_get i hi, List.foldl_cons] at hF
          have hz := named_size i
          generalize named.getD i (⟨#[]⟩, 0, false) = x at *
          obtain ⟨nm, code, bare⟩ := x
          simp only at hidx hz hF
          have hijp : (i : Int) + 1 = ((i + 1 : Nat) : Int) := by omega
          have HJ := Aside0.mk hijp
          have hbody : (s'.extract 1 s'.size).data.toList = T := by rw [ext_from, HS.out]; rfl
          clear hijp HF
          obtain ⟨rest, hrest⟩ : ∃ r : ByteArray, r = ⟨(Lib.trimPrefix T nm.data.toList).toArray⟩ := ⟨_, rfl⟩
          have hrl : rest.data.toList = Lib.trimPrefix T nm.data.toList := by rw [hrest]
          have hcp : ∀ W, Calls Try.prog 22 #[.string (s'.extract 1 s'.size), .string nm] W fun e w1 => e = .returned (.tuple #[.string rest, .bool (Lib.hasPrefix T nm.data.toList)]) ∧ w1 = W := by
            intro W
            refine (Try.strings_CutPrefix (s'.extract 1 s'.size) nm W).mono ?_
            rintro e w1 ⟨rfl, rfl⟩
            rw [hbody, ← hrest]
            exact ⟨rfl, rfl⟩
          have hhp : ∀ W, Calls Try.prog 19 #[.string rest, .string ⟨#[59]⟩] W fun e w1 => e = .returned (.bool (rest.data.toList.head? == some 59)) ∧ w1 = W := by
            intro W
            refine (Try.strings_HasPrefix rest _ W).mono ?_
            rintro e w1 ⟨rfl, rfl⟩
            rw [show Lib.hasPrefix rest.data.toList (⟨#[59]⟩ : ByteArray).data.toList = (rest.data.toList.head? == some 59) from head_prefix 59 _]
            exact ⟨rfl, rfl⟩
          have hs1 : (s'.size : Int) = T.length + 1 := by rw [HSL.out]; omega
          have hs2 : (1 : Int) ≤ s'.size := by omega
          have hrz : rest.size = (Lib.trimPrefix T nm.data.toList).length := by rw [size_list, hrl]
          have hst : nameStep T (tx, n, f) (nm, code, bare) = (if nm.data.toList.isPrefixOf T = true then
              (if (((T.drop nm.size).head? == some 59) = true ∨ bare = true) ∧ n < 1 + nm.size + (if ((T.drop nm.size).head? == some 59) = true then 1 else 0) then
                (Utf8.encode code, 1 + (nm.size : Int) + (if ((T.drop nm.size).head? == some 59) = true then 1 else 0), if ((T.drop nm.size).head? == some 59) = true then 0 else 1) else (tx, n, f)) else (tx, n, f)) := rfl
          rw [hst] at hF
          clear hst
          clear hrest hbody
          by_cases his : nm.data.toList.isPrefixOf T = true
          · rw [if_pos his] at hF
            have hnl : nm.size ≤ T.length := by
              have := (List.isPrefixOf_iff_prefix.1 his).length_le
              rw [size_list]; exact this
            have htr : Lib.trimPrefix T nm.data.toList = T.drop nm.size := by
              unfold Lib.trimPrefix Lib.hasPrefix
              rw [if_pos his, size_list]
            rw [htr] at hrl hrz
            rw [List.length_drop] at hrz
            have hr1 : (rest.size : Int) + nm.size ≤ T.length := by omega
            have hr2 : (T.length : Int) ≤ rest.size + nm.size := by omega
            rw [← hrl] at hF
            rw [show Lib.hasPrefix T nm.data.toList = true from his] at hcp
            have HCP := Aside0.mk hcp
            have hs3 : (s'.size : Int) ≤ 140737488351232 := by omega
            have hs4 : (s'.size : Int) ≤ T.length + 1 := by omega
            have hs5 : (T.length : Int) + 1 ≤ s'.size := by omega
            clear his htr hcp hrl hrz hs1
            by_cases hw : (rest.data.toList.head? == some 59) = true
            · rw [hw] at hhp
              simp only [hw, if_true, true_or, true_and] at hF
              have HHP := Aside0.mk hhp
              have hwl : 1 ≤ (rest.size : Int) := by
                have := size_list rest
                cases hr : rest.data.toList with
                | nil => rw [hr] at hw; simp at hw
                | cons a l => rw [hr] at this; simp at this; omega
              clear hhp hw
              by_cases hle : (s'.size : Int) - rest.size + 1 ≤ n
              · rw [if_neg (by omega)] at hF
                have HF2 := Aside0.mk hF
                clear hF
                go_wp2_with fail
                go_quiet ((go_at_call 22; exact Calls.quiet_of_same (HCP.out _)))
                go_wp2_with (go_at_call 19; (with_reducible refine (HHP.out _).mono ?_); rintro e w2 ⟨rfl, rfl⟩)
                go_roundg (gk - 1)
                case measure => omega
                case rel => exact ⟨i + 1, tx, n, f, by rw [HJ.out], rfl, rfl, rfl, by omega, by omega, by omega, by omega, by omega, by omega, by omega, HF2, ⟨by repeat (first | (with_reducible first | exact HB.out | apply below_alloc | apply pw_below_drewN | apply below_drew1) | exact HB.out)⟩⟩
              · rw [if_pos (by omega)] at hF
                have HF2 := Aside0.mk hF
                clear hF
                go_wp2_with fail
                go_quiet ((go_at_call 22; exact Calls.quiet_of_same (HCP.out _)))
                go_wp2_with (go_at_call 19; (with_reducible refine (HHP.out _).mono ?_); rintro e w2 ⟨rfl, rfl⟩)
                go_roundg (gk - 1)
                case measure => omega
                case rel => exact ⟨i + 1, Utf8.encode code, _, 0, by rw [HJ.out], rfl, rfl, rfl, by omega, by omega, by omega, by omega, by omega, by omega, by omega, ⟨by rw [show (s'.size : Int) - rest.size + 1 = 1 + nm.size + 1 by omega]; exact HF2.out⟩, ⟨by repeat (first | (with_reducible first | exact HB.out | apply below_alloc | apply pw_below_drewN | apply below_drew1) | exact HB.out)⟩⟩
            · rw [Bool.eq_false_iff.mpr hw] at hhp
              simp only [hw, Bool.false_eq_true, if_false, false_or, Int.add_zero] at hF
              have HHP := Aside0.mk hhp
              clear hhp hw
              cases bare with
              | false =>
                simp only [Bool.false_eq_true, false_and, if_false] at hF
                have HF2 := Aside0.mk hF
                clear hF
                go_wp2_with fail
                go_quiet ((go_at_call 22; exact Calls.quiet_of_same (HCP.out _)))
                go_wp2_with (go_at_call 19; (with_reducible refine (HHP.out _).mono ?_); rintro e w2 ⟨rfl, rfl⟩)
                go_roundg (gk - 1)
                case measure => omega
                case rel => exact ⟨i + 1, tx, n, f, by rw [HJ.out], rfl, rfl, rfl, by omega, by omega, by omega, by omega, by omega, by omega, by omega, HF2, ⟨by repeat (first | (with_reducible first | exact HB.out | apply below_alloc | apply pw_below_drewN | apply below_drew1) | exact HB.out)⟩⟩
              | true =>
                simp only [eq_self_iff_true, true_and] at hF
                by_cases hle : (s'.size : Int) - rest.size ≤ n
                · rw [if_neg (by omega)] at hF
                  have HF2 := Aside0.mk hF
                  clear hF
                  go_wp2_with fail
                  go_quiet ((go_at_call 22; exact Calls.quiet_of_same (HCP.out _)))
                  go_wp2_with (go_at_call 19; (with_reducible refine (HHP.out _).mono ?_); rintro e w2 ⟨rfl, rfl⟩)
                  go_roundg (gk - 1)
                  case measure => omega
                  case rel => exact ⟨i + 1, tx, n, f, by rw [HJ.out], rfl, rfl, rfl, by omega, by omega, by omega, by omega, by omega, by omega, by omega, HF2, ⟨by repeat (first | (with_reducible first | exact HB.out | apply below_alloc | apply pw_below_drewN | apply below_drew1) | exact HB.out)⟩⟩
                · rw [if_pos (by omega)] at hF
                  have HF2 := Aside0.mk hF
                  clear hF
                  go_wp2_with fail
                  go_quiet ((go_at_call 22; exact Calls.quiet_of_same (HCP.out _)))
                  go_wp2_with (go_at_call 19; (with_reducible refine (HHP.out _).mono ?_); rintro e w2 ⟨rfl, rfl⟩)
                  go_roundg (gk - 1)
                  case measure => omega
                  case rel => exact ⟨i + 1, Utf8.encode code, _, 1, by rw [HJ.out], rfl, rfl, rfl, by omega, by omega, by omega, by omega, by omega, by omega, by omega, ⟨by rw [show (s'.size : Int) - rest.size = 1 + nm.size by omega]; exact HF2.out⟩, ⟨by repeat (first | (with_reducible first | exact HB.out | apply below_alloc | apply pw_below_drewN | apply below_drew1) | exact HB.out)⟩⟩
          · rw [if_neg his] at hF
            have HF2 := Aside0.mk hF
            have his' : Lib.hasPrefix T nm.data.toList = false := Bool.eq_false_iff.mpr his
            have htr : Lib.trimPrefix T nm.data.toList = T := by
              unfold Lib.trimPrefix
              rw [his']; rfl
            rw [htr] at hrz
            rw [his'] at hcp
            have HCP := Aside0.mk hcp
            have hr1 : (rest.size : Int) + 1 ≤ s'.size := by omega
            have hs3 : (s'.size : Int) ≤ 140737488351232 := by omega
            clear hF his his' htr hcp hrl hrz hs1
            by_cases hw : (rest.data.toList.head? == some 59) = true
            · rw [hw] at hhp
              have HHP := Aside0.mk hhp
              clear hhp hw
              go_wp2_with fail
              go_quiet ((go_at_call 22; exact Calls.quiet_of_same (HCP.out _)))
              go_wp2_with (go_at_call 19; (with_reducible refine (HHP.out _).mono ?_); rintro e w2 ⟨rfl, rfl⟩)
              go_roundg (gk - 1)
              case measure => omega
              case rel => exact ⟨i + 1, tx, n, f, by rw [HJ.out], rfl, rfl, rfl, by omega, by omega, by omega, by omega, by omega, by omega, by omega, HF2, ⟨by repeat (first | (with_reducible first | exact HB.out | apply below_alloc | apply pw_below_drewN | apply below_drew1) | exact HB.out)⟩⟩
            · rw [Bool.eq_false_iff.mpr hw] at hhp
              have HHP := Aside0.mk hhp
              clear hhp hw
              go_wp2_with fail
              go_quiet ((go_at_call 22; exact Calls.quiet_of_same (HCP.out _)))
              go_wp2_with (go_at_call 19; (with_reducible refine (HHP.out _).mono ?_); rintro e w2 ⟨rfl, rfl⟩)
              go_roundg (gk - 1)
              case measure => omega
              case rel => exact ⟨i + 1, tx, n, f, by rw [HJ.out], rfl, rfl, rfl, by omega, by omega, by omega, by omega, by omega, by omega, by omega, HF2, ⟨by repeat (first | (with_reducible first | exact HB.out | apply below_alloc | apply pw_below_drewN | apply below_drew1) | exact HB.out)⟩⟩
        · have hF := HF.out
          rw [List.drop_of_length_le (by simp [named]; omega)] at hF
          simp only [List.foldl_nil] at hF
          have hR := HR2.out
          unfold nameRef at hR
          rw [← hF] at hR
          simp only at hR
          clear HF hF HR2
          by_cases ha : a2 = true
          · subst ha
            by_cases hf : f = 0
            · subst hf
              rw [if_neg (by simp)] at hR
              have HR3 := Aside0.mk hR
              clear hR
              go_wp2_with fail
              go_ret3
              exact ⟨ret3_of HR3.out, HB.out⟩
            · have hfb : (f == 0) = false := beq_eq_false_iff_ne.mpr hf
              have hfn : (f != 0) = true := bne_iff_ne.mpr hf
              have hn1' : 1 ≤ n := by omega
              by_cases hlen : n < (s'.size : Int)
              · have hp : 0 ≤ n := by omega
                have hx := bt_at s' n
                obtain ⟨m, hm⟩ : ∃ m : Nat, n = m + 1 := ⟨(n - 1).toNat, by omega⟩
                have hml : m < T.length := by have := HSL.out; omega
                have hdr : T.drop (n - 1).toNat = T[m] :: T.drop (m + 1) := by
                  rw [show (n - 1).toNat = m by omega, List.drop_eq_getElem_cons hml]
                have hbt : bt s' n = (T[m].toNat : Int) := by
                  rw [bt_list, HS.out, show n.toNat = m + 1 by omega, List.getD_cons_succ, List.getD_eq_getElem?_getD, List.getElem?_eq_getElem hml, Option.getD_some]
                rw [hdr] at hR
                simp only at hR
                rw [← hbt] at hR
                have hwd := word_of (bt s' n)
                generalize hwb : wordB (bt s' n) = b at *
                have HW := Aside0.mk hwd
                clear hm hml hdr hbt hwd hwb
                cases b with
                | true =>
                  rw [if_pos (by simp [hf])] at hR
                  have HR3 := Aside0.mk hR
                  clear hR hf
                  go_wp2_with (go_at_call 23; (with_reducible refine (charref_word.calls _ true _ HW.out).mono ?_); rintro e w2 ⟨rfl, hdrw⟩)
                  go_ret3
                  exact ⟨ret3_of HR3.out, below_step HB.out hdrw.below⟩
                | false =>
                  rw [if_neg (by simp)] at hR
                  have HR3 := Aside0.mk hR
                  clear hR hf
                  go_wp2_with (go_at_call 23; (with_reducible refine (charref_word.calls _ false _ HW.out).mono ?_); rintro e w2 ⟨rfl, hdrw⟩)
                  go_ret3
                  exact ⟨ret3_of HR3.out, below_step HB.out hdrw.below⟩
              · rw [List.drop_of_length_le (by have := HSL.out; omega)] at hR
                rw [if_neg (by simp)] at hR
                have HR3 := Aside0.mk hR
                clear hR hf
                go_wp2_with fail
                go_ret3
                exact ⟨ret3_of HR3.out, HB.out⟩
          · have ha' : a2 = false := by simpa using ha
            subst ha'
            rw [if_neg (by simp)] at hR
            have HR3 := Aside0.mk hR
            clear hR ha
            go_wp2_with fail
            go_ret3
            exact ⟨ret3_of HR3.out, HB.out⟩
  · have hne : a0[at'] ≠ 38 := fun h => hc (by rw [hbt, h]; rfl)
    have he3 : ((⟨#[]⟩ : ByteArray), (0 : Int), (0 : Int)) = (r1, r2, r3) := by
      rw [← he2]
      unfold refAt
      split
      · rename_i h; injection h with h; exact absurd h hne
      · rename_i h; injection h with h; exact absurd h hne
      · rfl
    have HE := Aside0.mk he3
    have hc1 : (bt a0 a1 == 38) = false := beq_eq_false_iff_ne.mpr hc
    have hc2 : (bt a0 a1 != 38) = true := bne_iff_ne.mpr hc
    clear he2 he3 hL hbt hne hat hc
    go_enter Try.func13, Try.ntmps13
    go_wp2
    go_ret3
    exact ⟨ret3_of HE.out, Below.refl _ _⟩

end Go.Proofs.Ytijjfkjihifjpaa.P
