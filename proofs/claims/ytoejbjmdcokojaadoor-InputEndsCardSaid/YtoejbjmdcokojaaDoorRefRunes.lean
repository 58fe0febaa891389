/- A text of characters, as the decoder reads it: plain laws. -/
import Derived.Test.YtoejbjmdcokojaaDoorInLaws2
import Derived.Test.YtoejbjmdcokojaaDoorHandRunes
import Derived.Lib.SmallJoins
namespace Go.Proofs.YtoejbjmdcokojaaDoor.RefRunes
set_option linter.unusedVariables false
set_option linter.unusedSimpArgs false
open Go Go.RowKit Go.Proofs.YtoejbjmdcokojaaDoor.Hand Go.Proofs.YtoejbjmdcokojaaDoor.InLaws

def Fine (n : Int) : Prop := (0 ≤ n ∧ n < 55296) ∨ (57344 ≤ n ∧ n ≤ 1114111)
def enc (n : Int) : List UInt8 := (Utf8.encode n).data.toList
theorem num (k : Nat) (h : k < 256) : (UInt8.ofNat k).toNat = k := by rw [UInt8.toNat_ofNat']; omega
theorem asks_two {c : Int} (h : 194 ≤ c ∧ c ≤ 223) : asksI c = (1, 128, 191) := by unfold asksI; rw [if_neg (by omega), if_pos h]
theorem asks_e0 : asksI 224 = (2, 160, 191) := by decide
theorem asks_ed : asksI 237 = (2, 128, 159) := by decide
theorem asks_three {c : Int} (h : 225 ≤ c ∧ c ≤ 239) (hn : c ≠ 237) : asksI c = (2, 128, 191) := by
  unfold asksI
  rw [if_neg (by omega), if_neg (by omega), if_neg (by omega), if_neg hn, if_pos h]
theorem asks_f0 : asksI 240 = (3, 144, 191) := by decide
theorem asks_f4 : asksI 244 = (3, 128, 143) := by decide
theorem asks_four {c : Int} (h : 241 ≤ c ∧ c ≤ 243) : asksI c = (3, 128, 191) := by
  unfold asksI
  rw [if_neg (by omega), if_neg (by omega), if_neg (by omega), if_neg (by omega), if_neg (by omega), if_neg (by omega), if_pos h]
theorem ok_one {d : Nat} {lo hi : Int} (hd : d < 256) (h : lo ≤ d ∧ (d : Int) ≤ hi) : okF lo hi [UInt8.ofNat d] := by
  refine ⟨?_, trivial⟩
  rw [num d hd]
  exact h
theorem ok_more {d : Nat} {lo hi : Int} {t : List UInt8} (hd : d < 256) (h : lo ≤ d ∧ (d : Int) ≤ hi) (ht : okF 128 191 t) : okF lo hi (UInt8.ofNat d :: t) := by
  refine ⟨?_, ht⟩
  rw [num d hd]
  exact h

theorem enc_one (n : Int) (h0 : 0 ≤ n) (h1 : n < 128) : enc n = [UInt8.ofNat n.toNat] := by
  have hv : Utf8.valid n = true := by unfold Utf8.valid; simp; omega
  unfold enc Utf8.encode
  simp only [hv, if_true]
  rw [if_pos (by omega)]
theorem enc_two (n : Int) (h0 : 128 ≤ n) (h1 : n < 2048) : enc n = [UInt8.ofNat (192 + n.toNat / 64), UInt8.ofNat (128 + n.toNat % 64)] := by
  have hv : Utf8.valid n = true := by unfold Utf8.valid; simp; omega
  unfold enc Utf8.encode
  simp only [hv, if_true]
  rw [if_neg (by omega), if_pos (by omega)]
theorem enc_three (n : Int) (h0 : 2048 ≤ n) (h1 : n < 65536) (hf : Fine n) : enc n = [UInt8.ofNat (224 + n.toNat / 4096), UInt8.ofNat (128 + n.toNat / 64 % 64), UInt8.ofNat (128 + n.toNat % 64)] := by
  have hv : Utf8.valid n = true := by unfold Fine at hf; unfold Utf8.valid; simp; omega
  unfold enc Utf8.encode
  simp only [hv, if_true]
  rw [if_neg (by omega), if_neg (by omega), if_pos (by omega)]
theorem enc_four (n : Int) (h0 : 65536 ≤ n) (hf : Fine n) : enc n = [UInt8.ofNat (240 + n.toNat / 262144), UInt8.ofNat (128 + n.toNat / 4096 % 64), UInt8.ofNat (128 + n.toNat / 64 % 64), UInt8.ofNat (128 + n.toNat % 64)] := by
  have hv : Utf8.valid n = true := by unfold Fine at hf; unfold Utf8.valid; simp; omega
  unfold enc Utf8.encode
  simp only [hv, if_true]
  rw [if_neg (by omega), if_neg (by omega), if_neg (by omega)]

/-- What a character's bytes are. -/
structure Enc (n : Int) (c : UInt8) (f : List UInt8) : Prop where
  is : enc n = c :: f
  chunk : Chunk c f
  low : n < 128 → f = [] ∧ (c.toNat : Int) = n
  high : 128 ≤ n → f ≠ []
  mark : n ≠ 65279 → ¬ (c = 239 ∧ f = [187, 191])
theorem enc_is (n : Int) (hf : Fine n) : ∃ c f, Enc n c f := by
  have hr : 0 ≤ n ∧ n ≤ 1114111 := by unfold Fine at hf; omega
  by_cases h1 : n < 128
  · have e : (UInt8.ofNat n.toNat).toNat = n.toNat := num _ (by omega)
    refine ⟨_, [], enc_one n hr.1 h1, ⟨128, 191, asks_low (by omega), by omega, by omega, trivial⟩, fun _ => ⟨rfl, by omega⟩, fun h => by omega, fun _ h => by have := congrArg List.length h.2; simp at this⟩
  · by_cases h2 : n < 2048
    · refine ⟨_, _, enc_two n (by omega) h2, ⟨128, 191, ?_, by omega, by omega, ok_one (by omega) (by omega)⟩, fun h => by omega, fun _ => by simp, fun _ h => by have := congrArg List.length h.2; simp at this⟩
      rw [num _ (by omega)]
      exact asks_two (by omega)
    · by_cases h3 : n < 65536
      · have hok : okF 128 191 [UInt8.ofNat (128 + n.toNat % 64)] := ok_one (by omega) (by omega)
        obtain ⟨a, ha⟩ : ∃ a, a = 224 + n.toNat / 4096 := ⟨_, rfl⟩
        have hm : n ≠ 65279 → ¬ (UInt8.ofNat a = 239 ∧ [UInt8.ofNat (128 + n.toNat / 64 % 64), UInt8.ofNat (128 + n.toNat % 64)] = [187, 191]) := by
          rintro hne ⟨e1, e2⟩
          injection e2 with e2 e3
          injection e3 with e3 _
          have k1 := congrArg UInt8.toNat e1
          have k2 := congrArg UInt8.toNat e2
          have k3 := congrArg UInt8.toNat e3
          rw [num _ (by omega)] at k1 k2 k3
          have l1 : (239 : UInt8).toNat = 239 := rfl
          have l2 : (187 : UInt8).toNat = 187 := rfl
          have l3 : (191 : UInt8).toNat = 191 := rfl
          omega
        have hE := enc_three n (by omega) h3 hf
        rw [← ha] at hE
        unfold Fine at hf
        have hl : (([UInt8.ofNat (128 + n.toNat / 64 % 64), UInt8.ofNat (128 + n.toNat % 64)] : List UInt8).length : Int) = 2 := rfl
        refine ⟨_, _, hE, ?_, fun h => by omega, fun _ => by simp, hm⟩
        by_cases c1 : a = 224
        · exact ⟨160, 191, by rw [num _ (by omega), hl, c1]; exact asks_e0, by omega, by omega, ok_more (by omega) (by omega) hok⟩
        · by_cases c2 : a = 237
          · exact ⟨128, 159, by rw [num _ (by omega), hl, c2]; exact asks_ed, by omega, by omega, ok_more (by omega) (by omega) hok⟩
          · exact ⟨128, 191, by rw [num _ (by omega), hl]; exact asks_three (by omega) (by omega), by omega, by omega, ok_more (by omega) (by omega) hok⟩
      · have hok : okF 128 191 [UInt8.ofNat (128 + n.toNat / 64 % 64), UInt8.ofNat (128 + n.toNat % 64)] := ok_more (by omega) (by omega) (ok_one (by omega) (by omega))
        obtain ⟨a, ha⟩ : ∃ a, a = 240 + n.toNat / 262144 := ⟨_, rfl⟩
        have hE := enc_four n (by omega) hf
        rw [← ha] at hE
        have hl : (([UInt8.ofNat (128 + n.toNat / 4096 % 64), UInt8.ofNat (128 + n.toNat / 64 % 64), UInt8.ofNat (128 + n.toNat % 64)] : List UInt8).length : Int) = 3 := rfl
        refine ⟨_, _, hE, ?_, fun h => by omega, fun _ => by simp, fun _ h => by have := congrArg List.length h.2; simp at this⟩
        by_cases c1 : a = 240
        · exact ⟨144, 191, by rw [num _ (by omega), hl, c1]; exact asks_f0, by omega, by omega, ok_more (by omega) (by omega) hok⟩
        · by_cases c2 : a = 244
          · exact ⟨128, 143, by rw [num _ (by omega), hl, c2]; exact asks_f4, by omega, by omega, ok_more (by omega) (by omega) hok⟩
          · exact ⟨128, 191, by rw [num _ (by omega), hl]; exact asks_four (by omega), by omega, by omega, ok_more (by omega) (by omega) hok⟩

/-! ### Texts of characters -/
def rl (x : List Int) : List UInt8 := (runesBytes x).data.toList
theorem app_data (a b : ByteArray) : (a ++ b).data.toList = a.data.toList ++ b.data.toList := by simp [ByteArray.data_append]
theorem rl_fold (x : List Int) : ∀ a : ByteArray, (x.foldl (fun r n => r ++ Utf8.encode n) a).data.toList = a.data.toList ++ x.flatMap enc := by
  induction x with
  | nil => intro a; simp
  | cons n x ih => intro a; rw [List.foldl_cons, ih, app_data, List.flatMap_cons, List.append_assoc]; rfl
theorem rl_eq (x : List Int) : rl x = x.flatMap enc := by
  unfold rl runesBytes
  rw [rl_fold]
  rfl
theorem rl_cons (n : Int) (x : List Int) : rl (n :: x) = enc n ++ rl x := by rw [rl_eq, rl_eq, List.flatMap_cons]
theorem rl_app (x y : List Int) : rl (x ++ y) = rl x ++ rl y := by rw [rl_eq, rl_eq, rl_eq, List.flatMap_append]
theorem rl_len (x : List Int) : (rl x).length ≤ 4 * x.length := by
  induction x with
  | nil => exact Nat.le_refl _
  | cons n x ih =>
    rw [rl_cons, List.length_append, List.length_cons]
    have : (enc n).length ≤ 4 := by
      have h := encode_size_le n
      have e : (enc n).length = (Utf8.encode n).size := Array.length_toList
      omega
    omega
/-- What is kept of a rune. -/
def KeptR (n : Int) : Prop := Fine n ∧ n ≠ 13 ∧ n ≠ 65279
theorem rl_val {x : List Int} (h : ∀ n ∈ x, KeptR n) : Val (rl x) := by
  induction x with
  | nil => exact .nil
  | cons n x ih =>
    obtain ⟨c, f, e⟩ := enc_is n (h n (by simp)).1
    rw [rl_cons, e.is, List.cons_append]
    exact .cons c f _ e.chunk (ih fun m hm => h m (by simp [hm]))
theorem enc_no {n : Int} (h : KeptR n) : (13 : UInt8) ∉ enc n := by
  obtain ⟨c, f, e⟩ := enc_is n h.1
  rw [e.is]
  intro hm
  rcases List.mem_cons.1 hm with hc | hm
  · rcases chunk_first e.chunk with ⟨h1, h2⟩ | ⟨_, h2⟩
    · by_cases hn : n < 128
      · have h3 := (e.low hn).2
        rw [← hc] at h3
        have h4 : ((13 : UInt8).toNat : Int) = 13 := rfl
        exact h.2.1 (by omega)
      · exact e.high (by omega) h1
    · rw [← hc] at h2
      exact absurd h2 (by decide)
  · have := chunk_rest e.chunk 13 hm
    exact absurd this.1 (by decide)
theorem rl_no {x : List Int} (h : ∀ n ∈ x, KeptR n) : (13 : UInt8) ∉ rl x := by
  rw [rl_eq]
  intro hm
  obtain ⟨n, hn, hm⟩ := List.mem_flatMap.1 hm
  exact enc_no (h n hn) hm
theorem enc_mark {n : Int} (h : KeptR n) (t r : List UInt8) : enc n ++ t ≠ 239 :: 187 :: 191 :: r := by
  obtain ⟨c, f, e⟩ := enc_is n h.1
  rw [e.is]
  intro he
  rw [List.cons_append] at he
  injection he with h1 h2
  subst h1
  obtain ⟨lo, hi, ha, _⟩ := e.chunk.is
  have h239 := asks239
  rw [h239] at ha
  have hl : (f.length : Int) = 2 := (congrArg Prod.fst ha).symm
  match f, hl, h2, e with
  | [a, b], _, h2, e =>
    simp only [List.cons_append, List.nil_append, List.cons.injEq] at h2
    exact e.mark h.2.2 ⟨rfl, by rw [h2.1, h2.2.1]⟩
  | [], hl, _, _ => simp at hl
  | [_], hl, _, _ => simp at hl
  | _ :: _ :: _ :: _, hl, _, _ => simp only [List.length_cons] at hl; omega
theorem rl_mark {x : List Int} (h : ∀ n ∈ x, KeptR n) : ∀ r, rl x ≠ 239 :: 187 :: 191 :: r := by
  intro r
  cases x with
  | nil => intro e; cases e
  | cons n x =>
    rw [rl_cons]
    exact enc_mark (h n (by simp)) _ r
theorem back {x : List Int} (h : ∀ n ∈ x, KeptR n) : decodeL (rl x) = rl x := decode_again (rl_val h) (rl_no h) (rl_mark h)
/-- A text that is cut short by a byte. -/
theorem cut {x : List Int} {n : Int} (h : ∀ m ∈ x, KeptR m) (hn : KeptR n) (h128 : 128 ≤ n) : decodeL (rl (x ++ [n])).dropLast = rl x ++ fffd.data.toList := by
  obtain ⟨c, f, e⟩ := enc_is n hn.1
  have hf := e.high h128
  have e1 : (rl (x ++ [n])).dropLast = rl x ++ (c :: f.dropLast) := by
    have h1 : rl [n] = c :: f := by rw [rl_cons, e.is]; simp [rl_eq]
    rw [rl_app, h1, List.dropLast_append_of_ne_nil (by simp), List.dropLast_cons_of_ne_nil hf]
  obtain ⟨lo, hi, ha, _, _, hok⟩ := e.chunk.is
  have hlen : f.dropLast.length + 1 = f.length := by
    rw [List.length_dropLast]
    have := List.length_pos_iff.2 hf
    omega
  have hm : ∀ r, rl x ++ (c :: f.dropLast) ≠ 239 :: 187 :: 191 :: r := by
    intro r
    cases x with
    | nil =>
      intro he
      have he' : c :: f.dropLast = 239 :: 187 :: 191 :: r := he
      injection he' with h1 h2
      subst h1
      have h239 := asks239
      rw [h239] at ha
      have hl : (f.length : Int) = 2 := (congrArg Prod.fst ha).symm
      rw [h2] at hlen
      simp only [List.length_cons] at hlen
      omega
    | cons m x =>
      rw [rl_cons, List.append_assoc]
      exact enc_mark (h m (by simp)) _ r
  have hl : lead lo hi (f.length : Int).toNat f.dropLast = f.dropLast.length := by
    rw [Int.toNat_natCast]
    refine lead_part _ _ _ _ ?_ (by omega)
    rw [List.dropLast_eq_take]
    exact ok_take _ hok
  rw [e1, decode_eq, unmark_not hm, ref_app _ (rl_val h), refL_cons c _ ha hl, if_neg (by omega), List.drop_length, refL_nil, List.append_nil]
  refine crlf_id _ fun hm => ?_
  rcases List.mem_append.1 hm with hm | hm
  · exact rl_no h hm
  · exact absurd hm (by decide)
end Go.Proofs.YtoejbjmdcokojaaDoor.RefRunes
