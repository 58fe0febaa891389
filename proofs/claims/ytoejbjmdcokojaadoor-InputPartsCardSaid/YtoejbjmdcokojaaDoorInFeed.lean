/- By hand: bytes are fed, and the text is told. -/
import Derived.Test.YtoejbjmdcokojaaDoorInRead
import Derived.Lib.UnsafeStr
namespace Go.Proofs.YtoejbjmdcokojaaDoor.Hand
set_option linter.unusedVariables false
set_option linter.unusedSimpArgs false
open Go Go.RowKit Go.Proofs.YtoejbjmdcokojaaDoorW.PrintWords

set_option maxHeartbeats 800000 in
set_option maxRecDepth 100000 in
theorem feed_calls {B b cap : Nat} {Q : Nat → Prop} {A : Option Addr} {s : DS} {w : World} (l : List UInt8) (h : Dec B Q b s w) (hg : Good s) (hL : LaidW w) (hB2 : 2 ≤ B) (hBw : B ≤ w.heap.size) (hlen : s.out.length + s.op.length + 6 * l.length + 6 ≤ 140737488355328)
    (hc : 0 < l.length → ∃ ab ao, A = some ⟨ab, ao, none⟩ ∧ (ab < B ∨ (Q ab ∧ ab < w.heap.size)) ∧ ∀ j, j < l.length → w.cell? ⟨ab, ao + j, none⟩ = some (.int .u8 (l.getD j 0).toNat)) (hcap : l.length ≤ cap) :
    Calls Tryd.prog 12 #[.pointer (some ⟨b, 0, none⟩), .slice A l.length cap] w fun e w' => e = .returned (.tuple #[]) ∧ Dec B Q b (feedS s l) w' ∧ Keeps B Q w w' := by
  have hmf : ∀ (fn : Fn) (first cap : Array Value) (w : World), (Instr.makeFunc fn first cap).run Tryd.prog w = .ok (.func fn first cap) w := fun _ _ _ _ => rfl
  obtain ⟨n, hn⟩ : ∃ n, n = l.length := ⟨_, rfl⟩
  rw [← hn] at hlen hc hcap ⊢
  have HN := Aside0.mk hn
  have HC := Aside0.mk hc
  have HL := Aside0.mk hL
  have HD := Aside0.mk h
  clear hn hc hL h
  have hn2 : n ≤ 9223372036854775807 := by omega
  go_enter Tryd.func12, Tryd.ntmps12
  go_wp2_with fail
  go_loopg [11] n (fun f v wr => ∃ j : Nat, j + f = n ∧ v = .int .i64 j ∧ Aside0 (Dec B Q b (feedS s (l.take j)) wr) ∧ Aside0 (Keeps B Q w wr))
  case atStart => exact ⟨0, by omega, rfl, by simpa [feedS] using HD, ⟨Keeps.refl B Q w⟩⟩
  case round =>
    clear HD
    obtain ⟨j, hjf, rfl, HD, HB⟩ := hrel
    by_cases hj : j < n
    · obtain ⟨ab, ao, rfl, hab, hcc0⟩ := HC.out (by omega)
      have hj1 : (j : Int) < n := by omega
      have hjc : j < cap := by omega
      obtain ⟨c, hcc⟩ : ∃ c, c = l.getD j 0 := ⟨_, rfl⟩
      have hcell : wr.cell? ⟨ab, ao + j, none⟩ = some (.int .u8 c.toNat) := by rw [hab.elim (fun h => HB.out.cell (p := ⟨ab, ao + j, none⟩) h) (fun h => HB.out.cellQ (p := ⟨ab, ao + j, none⟩) h.1 h.2), hcc]; exact hcc0 j hj
      have hgf := good_feed (l.take j) s hg
      have hlt : (l.take j).length = j := by rw [List.length_take, ← HN.out]; omega
      rw [hlt] at hgf
      have hB := Nat.le_trans hBw HB.out.size
      have HBy := Aside0.mk (byte_calls c HD.out hgf.1 (HL.out.keeps HB.out hB2) hB2 hB (by have := hgf.2; omega))
      have hnext : feedS s (l.take (j + 1)) = byteS (feedS s (l.take j)) c := by
        have hjl : j < l.length := by rw [← HN.out]; exact hj
        rw [List.take_add_one, List.getElem?_eq_getElem hjl, Option.toList_some, feed_snoc, hcc, List.getD_eq_getElem?_getD, List.getElem?_eq_getElem hjl, Option.getD_some]
      have HNx := Aside0.mk hnext
      clear hgf hlt hnext hcc hcc0
      go_wp2_with (go_at_call 16; refine HBy.out.mono ?_; rintro e w1 ⟨rfl, h1, h2⟩)
      go_roundg (gk - 1)
      case measure => omega
      case rel => exact ⟨j + 1, by omega, by go_num, ⟨by rw [HNx.out]; exact h1⟩, ⟨HB.out.trans h2⟩⟩
    · have hj1 : ¬ (j : Int) < n := by omega
      have hjn : j = n := by omega
      have HD2 : Aside0 (Dec B Q b (feedS s l) wr) := ⟨by have := HD.out; rw [hjn, HN.out, List.take_length] at this; exact this⟩
      go_wp2
      go_end0
      exact ⟨rfl, HD2.out, HB.out⟩
end Go.Proofs.YtoejbjmdcokojaaDoor.Hand
