-- Written by wip/tools/gprint.py of this session, over the kit's print. Lean checks it.
import Derived.Test.YtoejbjmdcokojaaDoorPx0
namespace Go.Proofs.YtoejbjmdcokojaaDoor.P
open Go.Proofs.YtoejbjmdcokojaaDoor.Hand
open Go.RowKit Go.Proofs.YtoejbjmdcokojaaDoorW.PrintWords Go.Proofs.YtoejbjmdcokojaaDoorW.PrintLast Go.Proofs.YtoejbjmdcokojaaDoorW.PrintMore
attribute [local go_sem] max2_int min2_int max_two min_two max_three min_three max_four min_four   -- for this text's walks alone
attribute [local go_sem] Go.IntKind.wrap_u32 conv_bytes
set_option linter.unusedVariables false
set_option linter.unusedSimpArgs false

/-! ### input_Decode: function 14 (by hand) -/
def bytesOf (l : List Int) : List UInt8 := l.map fun n => UInt8.ofNat n.toNat
def input_Decode.f (l0 : List Int) : Option (ByteArray) := if l0.length ≤ 1048576 ∧ ∀ x ∈ l0, 0 ≤ x ∧ x ≤ 255 then some ⟨(decodeL (bytesOf l0)).toArray⟩ else none
theorem input_Decode.calls (A0 : Option Addr) (c0 : Nat) (l0 : List Int) (r : ByteArray) (w : World) (hL : LaidW w) (hr0 : Kd.C (Kd.int .u8) w A0 l0.length l0) (hc0 : l0.length ≤ c0) (h : input_Decode.f l0 = some r) :
    Calls Tryd.prog 14 #[.slice A0 l0.length c0] w fun e w' => e = .returned (.string r) ∧ Below w.heap.size w w' := by
  unfold input_Decode.f at h
  split at h
  · rename_i hs
    rw [← Option.some.inj h]
    have hl : (bytesOf l0).length = l0.length := by simp [bytesOf]
    have hR := Kd.reads_of_C (d := (0 : Int)) hr0
    have hd := decode_calls (A := A0) (cap := c0) (bytesOf l0) hL (by rw [hl]; exact hs.1) (fun h0 => by
      rw [hl] at h0
      obtain ⟨ad, e, hc⟩ := hR.2.2 h0
      have hc0 := hc 0 h0
      have hsp : ad.spot = none := by
        have h1 : ad.add 0 = ad := by unfold Addr.add; rw [if_pos rfl]
        rw [h1] at hc0
        rcases hs2 : ad.spot with _ | x
        · rfl
        · exfalso
          unfold World.cell? at hc0
          rw [hs2] at hc0
          split at hc0 <;> simp at hc0
      obtain ⟨ab, ao, sp⟩ := ad
      simp only at hsp
      subst hsp
      have hadd : ∀ j, (⟨ab, ao, none⟩ : Addr).add j = ⟨ab, ao + j, none⟩ := fun j => by unfold Addr.add; split <;> simp_all
      rw [hadd] at hc0
      refine ⟨ab, ao, e, World.block_lt_of_cell? w ⟨ab, ao + 0, none⟩ hc0, fun j hj => ?_⟩
      rw [hl] at hj
      have h2 := hc j hj
      rw [hadd] at h2
      rw [h2]
      have hx := hs.2 (l0[j]) (List.getElem_mem hj)
      have hb : ((bytesOf l0).getD j 0).toNat = (l0[j]).toNat := by
        rw [List.getD_eq_getElem?_getD]
        simp only [bytesOf, List.getElem?_map, List.getElem?_eq_getElem hj, Option.map_some, Option.getD_some]
        simp only [UInt8.toNat_ofNat']
        omega
      rw [hb]
      simp only [List.getD_eq_getElem?_getD, List.getElem?_eq_getElem hj, Option.getD_some]
      rw [Int.toNat_of_nonneg hx.1]) (by rw [hl]; exact hc0)
    rw [hl] at hd
    exact hd
  · cases h
def input_DecodeS.f (s : ByteArray) : Option (ByteArray) := if s.size ≤ 1048576 then some ⟨(decodeL s.data.toList).toArray⟩ else none
theorem input_DecodeS.calls (s : ByteArray) (r : ByteArray) (w : World) (hL : LaidW w) {n c : Nat} (hn : n = s.size) (hc : c = grownCap w n 0 5) (h : input_DecodeS.f s = some r) :
    Calls Tryd.prog 14 #[.slice (some ⟨w.heap.size, 0, none⟩) n c] (Lib.bytesWorld w 5 s) fun e w' => e = .returned (.string r) ∧ Below w.heap.size w w' := by
  subst hn hc
  unfold input_DecodeS.f at h
  split at h
  · rename_i hs
    rw [← Option.some.inj h]
    exact decode_conv s hL hs
  · cases h

end Go.Proofs.YtoejbjmdcokojaaDoor.P
