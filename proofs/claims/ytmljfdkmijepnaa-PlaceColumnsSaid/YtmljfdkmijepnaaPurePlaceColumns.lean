/- In a text of one line of letters the column is the place, and one: the law portierelaw02.PlaceColumns, for every input. -/
import Derived.Test.YtmljfdkmijepnaaPx5
import Derived.Test.YtmljfdkmijepnaaRefPlace
namespace Go.Proofs.Ytmljfdkmijepnaa.Pure
set_option linter.unusedVariables false
set_option linter.unusedSimpArgs false
open Go Go.RowKit Go.Proofs.Ytmljfdkmijepnaa.P Go.Proofs.Ytmljfdkmijepnaa.Hand Go.Proofs.Ytmljfdkmijepnaa.Pos Go.Proofs.Ytmljfdkmijepnaa.RefPlace Go.Proofs.YtmljfdkmijepnaaW.PrintWords Go.Proofs.YtmljfdkmijepnaaW.PrintLast

def Plain (l : List UInt8) : Prop := ∀ c ∈ l, c.toNat < 128 ∧ c ≠ 10
theorem plain_pos (l : List UInt8) (h : Plain l) : ∀ i, i ≤ l.length → pos l i = (1, (i : Int) + 1) := by
  intro i
  induction i with
  | zero => intro _; rfl
  | succ i ih =>
    intro hi
    have ih := ih (by omega)
    have hl : i < l.length := by omega
    have hg : l.getD i 0 = l[i] := by rw [List.getD_eq_getElem?_getD, List.getElem?_eq_getElem hl, Option.getD_some]
    obtain ⟨h1, h2⟩ := h l[i] (List.getElem_mem hl)
    rw [pos_beg l i hl (by rw [hg]; exact h2) (by rw [hg]; unfold begB; rw [decide_eq_true (p := (l[i].toNat : Int) < 128) (by omega)]; rfl), ih]
    exact Prod.ext rfl (by simp only; omega)
theorem columns_end (k : Nat) (s t : ByteArray) (x : Int) (hs : s.size ≤ 500) (x0 : 0 ≤ x) (x1 : x ≤ 65535) (ht : t.size = s.size) (hp : Plain t.data.toList) (hk : 2 * s.size + 3 ≤ k) : portierelaw02_PlaceColumns.l0 (k + 1) s x t s.size = some true := by
  have hlen := size_list t
  have A1 : Aside0 (wrap64 x = x) := ⟨by rw [wrap64_id] <;> omega⟩
  have A3 : Aside0 (wrap64 ((t.size : Int) + 1) = t.size + 1) := ⟨by rw [wrap64_id] <;> omega⟩
  have A4 : Aside0 (wrap64 ((t.size : Int) + 2) = t.size + 2) := ⟨by rw [wrap64_id] <;> omega⟩
  obtain ⟨a, ha⟩ : ∃ a : Nat, Int.tmod x (t.size + 1) = a := by
    rw [Int.tmod_eq_emod_of_nonneg x0]
    exact ⟨(x % (t.size + 1)).toNat, by have := Int.emod_nonneg x (b := (t.size : Int) + 1) (by omega); omega⟩
  have hal : a < t.size + 1 := by
    have := Int.emod_lt_of_pos x (b := (t.size : Int) + 1) (by omega)
    rw [Int.tmod_eq_emod_of_nonneg x0] at ha
    omega
  have A5 : Aside0 (wrap64 ((a : Int) + 1) = (a : Int) + 1) := ⟨by rw [wrap64_id] <;> omega⟩
  obtain ⟨r1, e1, F1⟩ := of_of t 1 ((a : Int) + 1) (by omega) (by omega) (by omega) (by omega) k (by omega)
  obtain ⟨r2, e2, F2⟩ := of_of t 1 ((t.size : Int) + 2) (by omega) (by omega) (by omega) (by omega) k (by omega)
  have f1 : r1 = ((a : Int), true) := by
    rcases F1 with ⟨p, e, hpl, hq, _⟩ | ⟨_, h⟩
    · rw [plain_pos _ hp p hpl] at hq
      injection hq with _ hq
      rw [e, show p = a by omega]
    · exact absurd (plain_pos _ hp a (by omega)) (h a (by omega))
  have f2 : r2.2 = false := by
    rcases F2 with ⟨p, e, hpl, hq, _⟩ | ⟨e, _⟩
    · rw [plain_pos _ hp p hpl] at hq
      injection hq with _ hq
      omega
    · rw [e]
  subst f1
  simp only [portierelaw02_PlaceColumns.l0]
  rw [if_neg (by omega), A1.out, A3.out, A4.out, if_neg (by omega), ha, A5.out, at_nat t a (by omega) (by omega), Option.bind_some, e1, Option.bind_some, e2, Option.bind_some, plain_pos _ hp a (by omega), if_pos rfl, if_pos rfl, if_pos rfl, if_pos rfl, f2]
  rfl
theorem strOf_one (n : Int) (h0 : 32 ≤ n) (h1 : n ≤ 126) : (strOfNums [n]).data.toList = [UInt8.ofNat n.toNat] := by
  rfl
theorem columns_loop (s : ByteArray) (x : Int) (hs : s.size ≤ 500) (x0 : 0 ≤ x) (x1 : x ≤ 65535) : ∀ (d k i : Nat) (t : ByteArray), s.size - i ≤ d → d + 2 * s.size + 4 ≤ k → i ≤ s.size → t.size = i → Plain t.data.toList → portierelaw02_PlaceColumns.l0 k s x t i = some true := by
  intro d
  induction d with
  | zero =>
    intro k i t hd hk hi ht hp
    obtain ⟨k, rfl⟩ : ∃ m, k = m + 1 := ⟨k - 1, by omega⟩
    obtain rfl : i = s.size := by omega
    exact columns_end k s t x hs x0 x1 ht hp (by omega)
  | succ d ih =>
    intro k i t hd hk hi ht hp
    obtain ⟨k, rfl⟩ : ∃ m, k = m + 1 := ⟨k - 1, by omega⟩
    by_cases he : i = s.size
    · subst he
      exact columns_end k s t x hs x0 x1 ht hp (by omega)
    · have W : Aside0 (wrap64 ((i : Int) + 1) = ((i + 1 : Nat) : Int)) := ⟨by rw [wrap64_id] <;> omega⟩
      obtain ⟨n, hn⟩ : ∃ n : Int, n = (Int.tmod (bt s i) 95 + 32) % 256 := ⟨_, rfl⟩
      have hb : 0 ≤ bt s i := by rw [bt_list]; omega
      rw [Int.tmod_eq_emod_of_nonneg hb] at hn
      have h0 : 32 ≤ n := by omega
      have h1 : n ≤ 126 := by omega
      have hl := strOf_one n h0 h1
      have hsz : (strOfNums [n]).size = 1 := by rw [size_list, hl]; rfl
      have hts : (t ++ strOfNums [n]).size = i + 1 := by rw [ByteArray.size_append, hsz, ht]
      have hp' : Plain (t ++ strOfNums [n]).data.toList := by
        intro c hc
        rw [app_list, hl, List.mem_append, List.mem_singleton] at hc
        rcases hc with hc | hc
        · exact hp c hc
        · subst hc
          have hm : (UInt8.ofNat n.toNat).toNat = n.toNat := by rw [UInt8.toNat_ofNat_of_lt']; show n.toNat < 256; omega
          refine ⟨by omega, ?_⟩
          intro h
          have := congrArg UInt8.toNat h
          rw [hm] at this
          have h10 : (10 : UInt8).toNat = 10 := rfl
          omega
      have h := ih k (i + 1) (t ++ strOfNums [n]) (by omega) (by omega) (by omega) hts hp'
      simp only [portierelaw02_PlaceColumns.l0]
      rw [if_pos (by omega), if_pos (by omega), Option.bind_some, Int.tmod_eq_emod_of_nonneg hb, ← hn, if_pos (by omega), W.out]
      exact h
theorem PlaceColumns : portierelaw02_PlaceColumns.Pure := by
  intro a0 a1 _ hw
  simp only [Lit.wf, Bool.and_eq_true, decide_eq_true_eq] at hw
  have h0 : 0 ≤ a1 := hw.1
  have h1 : a1 ≤ 65535 := hw.2
  clear hw
  refine ⟨3 * a0.size + 30, ?_⟩
  obtain ⟨k, hk⟩ : ∃ k, k = 3 * a0.size + 29 := ⟨_, rfl⟩
  rw [show 3 * a0.size + 30 = k + 1 by omega]
  unfold portierelaw02_PlaceColumns.f
  by_cases hs : (a0.size : Int) > 500
  · rw [if_pos hs]
    simp only [portierelaw02_PlaceColumns.j0]
    rw [if_pos trivial, known_true k (by omega), Option.bind_some]
  · rw [if_neg hs, known_true (k + 1) (by omega), Option.bind_some]
    simp only [portierelaw02_PlaceColumns.j0]
    rw [if_neg (by simp)]
    exact columns_loop a0 a1 (by omega) h0 h1 a0.size k 0 ⟨#[]⟩ (by omega) (by omega) (by omega) rfl (by intro c hc; simp at hc)

end Go.Proofs.Ytmljfdkmijepnaa.Pure
