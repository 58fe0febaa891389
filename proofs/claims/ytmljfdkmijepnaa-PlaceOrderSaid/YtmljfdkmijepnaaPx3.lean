-- Written by wip/tools/gprint.py of this session, over the kit's print. Lean checks it.
import Derived.Test.YtmljfdkmijepnaaPx0
namespace Go.Proofs.Ytmljfdkmijepnaa.P
open Go.Proofs.Ytmljfdkmijepnaa.Hand
open Go.RowKit Go.Proofs.YtmljfdkmijepnaaW.PrintWords Go.Proofs.YtmljfdkmijepnaaW.PrintLast Go.Proofs.YtmljfdkmijepnaaW.PrintMore
attribute [local go_sem] max2_int min2_int max_two min_two max_three min_three max_four min_four   -- for this text's walks alone
attribute [local go_sem] Go.IntKind.wrap_u32
set_option linter.unusedVariables false
set_option linter.unusedSimpArgs false

/-! ### strings_Cut: function 23 (by hand) -/
theorem ret3_cut {a b a' b' : ByteArray} {c c' : Bool} (h : (a, b, c) = (a', b', c')) : Ending.returned (.tuple #[.string a, .string b, .bool c]) = .returned (.tuple #[.string a', .string b', .bool c']) := by injection h with h1 h2; injection h2 with h2 h3; rw [h1, h2, h3]
def strings_Cut.f (a0 : ByteArray) (a1 : ByteArray) : Option (ByteArray × ByteArray × Bool) := if a1 = ⟨#[10]⟩ ∧ a0.size ≤ 140737488351232 then (match cutLine a0.data.toList with | some p => some (⟨p.1.toArray⟩, ⟨p.2.toArray⟩, true) | none => some (a0, ⟨#[]⟩, false)) else none
theorem stringslite_Cut_calls (a0 : ByteArray) (r1 : ByteArray) (r2 : ByteArray) (r3 : Bool) (w : World) (h : strings_Cut.f a0 ⟨#[10]⟩ = some (r1, r2, r3)) :
    Calls Try.prog 25 #[.string a0, .string ⟨#[10]⟩] w fun e w' => e = .returned (.tuple #[.string r1, .string r2, .bool r3]) ∧ Below w.heap.size w w' := by
  have hs : a0.size ≤ 140737488351232 := by
    unfold strings_Cut.f at h
    by_cases hc : ((⟨#[10]⟩ : ByteArray) = ⟨#[10]⟩ ∧ a0.size ≤ 140737488351232)
    · exact hc.2
    · rw [if_neg hc] at h; cases h
  unfold strings_Cut.f at h
  rw [if_pos ⟨rfl, hs⟩] at h
  obtain ⟨x, hx⟩ : ∃ x : Int, x = Lib.indexByte a0.data.toList 10 := ⟨_, rfl⟩
  have hC : ∀ W, Calls Try.prog 24 #[.string a0, .string ⟨#[10]⟩] W fun e w' => e = .returned (.int .i64 x) ∧ w' = W := by
    intro W
    rw [hx]
    exact Try.stringslite_Index_one a0 10 W
  have C := Aside0.mk hC
  have hs2 : (a0.size : Int) ≤ 140737488351232 := by omega
  rcases cutLine_index a0.data.toList with ⟨e1, e2⟩ | ⟨k, e1, e2, e3⟩
  · rw [e2] at h
    simp only [Option.some.injEq] at h
    have H := Aside0.mk h
    have hx0 : x < 0 := by omega
    clear h e1 e2 hx hC
    go_enter Try.func25, Try.ntmps25
    go_wp2_with (go_at_call 24; (with_reducible refine (C.out _).mono ?_); rintro e w1 ⟨rfl, rfl⟩)
    go_ret3
    exact ⟨ret3_cut H.out, Below.refl _ _⟩
  · rw [e3] at h
    simp only [Option.some.injEq] at h
    rw [← size_list] at e2
    have hx1 : x = k := by omega
    have hx2 : x.toNat = k := by omega
    have hx3 : (x + 1).toNat = k + 1 := by omega
    have H : Aside0 ((a0.extract 0 x.toNat, a0.extract (x + 1).toNat a0.size, true) = (r1, r2, r3)) := ⟨by
      rw [← h, hx2, hx3]
      refine Prod.ext (bytes_ext ?_) (Prod.ext (bytes_ext ?_) rfl)
      · rw [ext_list]; rfl
      · rw [ext_from]⟩
    have hx4 : 0 ≤ x := by omega
    have hx5 : x < a0.size := by omega
    have hx6 : x + 1 ≤ a0.size := by omega
    have hx7 : (x + 1).toNat ≤ a0.size := by omega
    clear h e1 e2 e3 hx hC hx1 hx2 hx3
    go_enter Try.func25, Try.ntmps25
    go_wp2_with (go_at_call 24; (with_reducible refine (C.out _).mono ?_); rintro e w1 ⟨rfl, rfl⟩)
    go_quiet (fail)
    go_wp2_with fail
    go_ret3
    exact ⟨ret3_cut H.out, pw_below_drewN (Below.refl _ _) _⟩
theorem strings_Cut.calls (a0 : ByteArray) (a1 : ByteArray) (r1 : ByteArray) (r2 : ByteArray) (r3 : Bool) (w : World) (h : strings_Cut.f a0 a1 = some (r1, r2, r3)) :
    Calls Try.prog 23 #[.string a0, .string a1] w fun e w' => e = .returned (.tuple #[.string r1, .string r2, .bool r3]) ∧ Below w.heap.size w w' := by
  have h1 : a1 = ⟨#[10]⟩ := by
    unfold strings_Cut.f at h
    by_cases hc : (a1 = ⟨#[10]⟩ ∧ a0.size ≤ 140737488351232)
    · exact hc.1
    · rw [if_neg hc] at h; cases h
  subst h1
  have HC := stringslite_Cut_calls a0 r1 r2 r3
  have H := Aside0.mk h
  clear h
  go_enter Try.func23, Try.ntmps23
  go_wp2_with (go_at_call 25; (with_reducible refine (HC _ H.out).mono ?_); rintro e w1 ⟨rfl, hb⟩)
  go_ret3
  exact ⟨rfl, hb⟩

end Go.Proofs.Ytmljfdkmijepnaa.P
