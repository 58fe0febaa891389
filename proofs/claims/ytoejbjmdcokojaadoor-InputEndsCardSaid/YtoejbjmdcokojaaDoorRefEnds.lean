/- A character that is cut off at the end of a text: plain laws. -/
import Derived.Test.YtoejbjmdcokojaaDoorRefRunes
namespace Go.Proofs.YtoejbjmdcokojaaDoor.RefRunes
set_option linter.unusedVariables false
set_option linter.unusedSimpArgs false
open Go Go.RowKit Go.Proofs.YtoejbjmdcokojaaDoor.Hand Go.Proofs.YtoejbjmdcokojaaDoor.InLaws

theorem cut_at {x : List Int} {n : Int} (h : ∀ m ∈ x, KeptR m) (hn : KeptR n) (m : Nat) (h1 : 1 ≤ m) (h2 : m < (enc n).length) : decodeL (rl x ++ (enc n).take m) = rl x ++ fffd.data.toList := by
  obtain ⟨c, f, e⟩ := enc_is n hn.1
  obtain ⟨m, rfl⟩ : ∃ k, m = k + 1 := ⟨m - 1, by omega⟩
  rw [e.is] at h2 ⊢
  simp only [List.length_cons] at h2
  rw [List.take_succ_cons]
  obtain ⟨lo, hi, ha, _, _, hok⟩ := e.chunk.is
  have hlen : (f.take m).length = m := by rw [List.length_take]; omega
  have hm : ∀ r, rl x ++ (c :: f.take m) ≠ 239 :: 187 :: 191 :: r := by
    intro r
    cases x with
    | nil =>
      intro he
      have he' : c :: f.take m = 239 :: 187 :: 191 :: r := he
      injection he' with h1 h2
      subst h1
      have h239 := asks239
      rw [h239] at ha
      have hl : (f.length : Int) = 2 := (congrArg Prod.fst ha).symm
      rw [h2] at hlen
      simp only [List.length_cons] at hlen
      omega
    | cons m x =>
      rw [rl_cons, List.append_assoc]
      exact enc_mark (h m (by simp)) _ r
  have hl : lead lo hi (f.length : Int).toNat (f.take m) = (f.take m).length := by
    rw [Int.toNat_natCast]
    exact lead_part _ _ _ _ (ok_take _ hok) (by omega)
  rw [decode_eq, unmark_not hm, ref_app _ (rl_val h), refL_cons c _ ha hl, if_neg (by omega), List.drop_length, refL_nil, List.append_nil]
  refine crlf_id _ fun hm => ?_
  rcases List.mem_append.1 hm with hm | hm
  · exact rl_no h hm
  · exact absurd hm (by decide)
def wide (T : List UInt8) : List Int := T.map fun b => (b.toNat : Int)
theorem rl_wide {T : List UInt8} (h : ∀ b ∈ T, b.toNat < 128) : rl (wide T) = T := by
  induction T with
  | nil => rfl
  | cons b T ih =>
    have hb := h b (by simp)
    show rl ((b.toNat : Int) :: wide T) = _
    rw [rl_cons, enc_one _ (by omega) (by omega), ih fun d hd => h d (by simp [hd]), Int.toNat_natCast]
    simp
theorem kept_wide {T : List UInt8} (h : ∀ b ∈ T, 32 ≤ b.toNat ∧ b.toNat < 127) : ∀ n ∈ wide T, KeptR n := by
  intro n hn
  obtain ⟨b, hb, rfl⟩ := List.mem_map.1 hn
  have := h b hb
  unfold KeptR Fine
  omega
theorem ends_one {T : List UInt8} (h : ∀ b ∈ T, 32 ≤ b.toNat ∧ b.toNat < 127) {n : Int} (hn : KeptR n) (m : Nat) (h1 : 1 ≤ m) (h2 : m < (enc n).length) : decodeL (T ++ (enc n).take m) = T ++ fffd.data.toList := by
  have := cut_at (kept_wide h) hn m h1 h2
  rw [rl_wide fun b hb => by have := h b hb; omega] at this
  exact this
theorem ends_two {T : List UInt8} (h : ∀ b ∈ T, 32 ≤ b.toNat ∧ b.toNat < 127) {n : Int} (hn : KeptR n) : decodeL (T ++ enc n) = T ++ enc n := by
  have := back (x := wide T ++ [n]) (by
    intro m hm
    rcases List.mem_append.1 hm with hm | hm
    · exact kept_wide h m hm
    · rw [List.mem_singleton.1 hm]; exact hn)
  rw [rl_app, rl_wide fun b hb => by have := h b hb; omega, rl_cons] at this
  simpa [rl_eq] using this
theorem enc_long {n : Int} (hn : Fine n) (h : 128 ≤ n) : 2 ≤ (enc n).length ∧ (enc n).length ≤ 4 := by
  obtain ⟨c, f, e⟩ := enc_is n hn
  have hf := List.length_pos_iff.2 (e.high h)
  have h4 : (enc n).length ≤ 4 := by
    have h := encode_size_le n
    have e : (enc n).length = (Utf8.encode n).size := Array.length_toList
    omega
  refine ⟨?_, h4⟩
  rw [e.is, List.length_cons]
  omega
end Go.Proofs.YtoejbjmdcokojaaDoor.RefRunes
