/- By hand: Decode([]byte(s)): the conversion and the call as one step. -/
import Derived.Test.YtoejbjmdcokojaaDoorInDecode
namespace Go.Proofs.YtoejbjmdcokojaaDoor.Hand
set_option linter.unusedVariables false
set_option linter.unusedSimpArgs false
open Go Go.RowKit Go.Proofs.YtoejbjmdcokojaaDoorW.PrintWords

theorem conv_bytes (s : ByteArray) (W : World) : (convert 9 23 (.string s)).run Tryd.prog W = .ok (.slice (some ⟨W.heap.size, 0, none⟩) s.size (grownCap W s.size 0 5)) (Lib.bytesWorld W 5 s) :=
  print_bytes 9 23 5 Tryd.underlying9 Tryd.underlying23 Tryd.underlying5 s W
theorem size3 (x : ByteArray) : 3 + x.size = ((⟨#[239, 187, 191]⟩ : ByteArray) ++ x).size := by rw [ByteArray.size_append]; rfl
theorem size6 (x : ByteArray) : 6 + x.size = ((⟨#[239, 187, 191, 239, 187, 191]⟩ : ByteArray) ++ x).size := by rw [ByteArray.size_append]; rfl
theorem size4 (x : ByteArray) : 4 + x.size = ((⟨#[120, 239, 187, 191]⟩ : ByteArray) ++ x).size := by rw [ByteArray.size_append]; rfl
theorem decode_conv (s : ByteArray) {w : World} (hL : LaidW w) (hlen : s.size ≤ 1048576) :
    Calls Tryd.prog 14 #[.slice (some ⟨w.heap.size, 0, none⟩) s.size (grownCap w s.size 0 5)] (Lib.bytesWorld w 5 s) fun e w' => e = .returned (.string ⟨(decodeL s.data.toList).toArray⟩) ∧ Below w.heap.size w w' := by
  have hb : Below w.heap.size w (Lib.bytesWorld w 5 s) := bytes_below (Below.refl _ _) (Nat.le_refl _) 5 s
  have hl : s.data.toList.length = s.size := data_length s
  have h := decode_calls (A := some ⟨w.heap.size, 0, none⟩) (cap := grownCap w s.size 0 5) (w := Lib.bytesWorld w 5 s) s.data.toList (hL.below hb hL.size) (by omega)
    (fun _ => ⟨w.heap.size, 0, rfl, by rw [Lib.bytesWorld_size]; omega, fun j hj => by rw [Nat.zero_add, Lib.bytesWorld_cell w 5 s j (by omega)]⟩) (by rw [hl]; exact grownCap_ge w _ _ _)
  rw [hl] at h
  refine h.mono ?_
  rintro e w' ⟨he, hb2⟩
  exact ⟨he, hb.trans (hb2.mono (by rw [Lib.bytesWorld_size]; omega))⟩
end Go.Proofs.YtoejbjmdcokojaaDoor.Hand
