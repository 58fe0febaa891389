/- By hand: a replacer that is made, built once, and run. -/
import Derived.Test.YtebcdfdkgjcmmaaEscMake
import Derived.Test.YtebcdfdkgjcmmaaEscGen
namespace Go.Proofs.Ytebcdfdkgjcmmaa.Hand
set_option linter.unusedVariables false
set_option linter.unusedSimpArgs false
open Go Go.RowKit Go.Proofs.YtebcdfdkgjcmmaaW.PrintWords

/-- The pairs lie at S. -/
def Olds (q : Bool) (S : Nat) (w : World) : Prop :=
  ∀ k, k < kn q → w.cell? ⟨S, 2 * k, none⟩ = some (.string ((keysOf q).getD k ByteArray.empty)) ∧ w.cell? ⟨S, 2 * k + 1, none⟩ = some (.string ((valsOf q).getD k ByteArray.empty))
theorem key_len (q : Bool) (k : Nat) (h : k < 3) : ((keysOf q).getD k ByteArray.empty).size = 1 := by
  cases q <;> (match k, h with | 0, _ => rfl | 1, _ => rfl | 2, _ => rfl)
theorem key_len3 (q : Bool) : ((keysOf q).getD 3 ByteArray.empty).size = 2 := by cases q <;> rfl

set_option maxHeartbeats 800000 in
set_option maxRecDepth 100000 in
theorem rep_build (q : Bool) (b S cap : Nat) (f : Nat → Value) (w : World) (hr : w.rowIs b 49 5 f) (h4 : f 4 = .slice (some ⟨S, 0, none⟩) (2 * kn q) cap) (hS : S < w.heap.size) (hcap : 2 * kn q ≤ cap) (hk : Olds q S w) :
    Calls Try.prog 27 #[.pointer (some ⟨b, 0, none⟩)] w fun e w' => ∃ G, e = .returned (.iface 65 (.pointer (some ⟨G, 0, none⟩))) ∧ Ready q w.heap.size w'.heap.size w' G ∧ Below w.heap.size w w' := by
  have c4 := hr.cell (i := 4) (by omega)
  rw [h4] at c4
  have hkn : kn q = 4 ∨ kn q = 5 := by unfold kn; split <;> simp
  have HMk := Aside0.mk (gen_make q S cap w hS hcap hk)
  obtain ⟨L, hL⟩ : ∃ L, L = 2 * kn q := ⟨_, rfl⟩
  rw [← hL] at hcap c4 HMk
  have hL8 : 8 ≤ L := by omega
  have hLc : (L : Int) ≤ 10 := by omega
  have hL2 : ¬ (L : Int) = 2 := by omega
  have HL := Aside0.mk hL
  have HK := Aside0.mk hk
  clear hr h4 hk hL hkn
  go_enter Try.func27, Try.ntmps27
  go_wp2_with fail
  go_loopg [5] 4 (fun n v wr => ∃ (k i2 : Nat), k + n = 4 ∧ k < 4 ∧ v = .int .i64 i2 ∧ Aside0 (i2 = 2 * k) ∧ wr = w)
  case atStart => exact ⟨0, 0, by omega, by omega, rfl, ⟨rfl⟩, rfl⟩
  case round =>
    obtain ⟨k, i2, hkn, hk4, rfl, HI, rfl⟩ := hrel
    have hi2 := HI.out
    have hil : (i2 : Int) < L := by omega
    have hil2 : i2 < L := by omega
    have hic : i2 < cap := by omega
    have hil3 : i2 + 1 < L := by omega
    have hil4 : (i2 : Int) + 1 < L := by omega
    have hi0 : (i2 : Int) + 2 ≤ 1000 := by omega
    have hn1 : (0 : Int) ≤ (i2 : Int) + 1 := by omega
    have hn2 : ((i2 : Int) + 1).toNat = i2 + 1 := by omega
    have hkq : k < kn q := by have := HL.out; omega
    obtain ⟨key, hkey⟩ : ∃ s, s = (keysOf q).getD k ByteArray.empty := ⟨_, rfl⟩
    obtain ⟨val, hval⟩ : ∃ s, s = (valsOf q).getD k ByteArray.empty := ⟨_, rfl⟩
    have hcell : wr.cell? ⟨S, i2, none⟩ = some (.string key) := by rw [hi2, hkey]; exact (HK.out k hkq).1
    have hcell2 : wr.cell? ⟨S, i2 + 1, none⟩ = some (.string val) := by rw [hi2, hval]; exact (HK.out k hkq).2
    by_cases h3 : k < 3
    · have hks : (key.size : Int) = 1 := by rw [hkey, key_len q k h3]; rfl
      have HI3 : Aside0 (i2 + 2 = 2 * (k + 1)) := ⟨by rw [HI.out]; omega⟩
      clear hkey hval hi2
      go_wp2
      all_goals (
        go_roundg (4 - (k + 1))
        case measure => omega
        case rel => exact ⟨k + 1, i2 + 2, by omega, by omega, by go_num, HI3, rfl⟩)
    · have hk3 : k = 3 := by omega
      have hks : ¬ (key.size : Int) = 1 := by rw [hkey, hk3, key_len3]; decide
      clear hkey hval hi2
      go_wp2_with (go_at_call 34; refine HMk.out.mono ?_; rintro e w1 ⟨G, rfl, h1, h2⟩)
      go_ret
      exact ⟨G, rfl, h1, h2⟩

/-- Behind the once: what stands in the replacer. -/
def Built (q : Bool) (B C b : Nat) (w0 w : World) : Prop :=
  ∃ G f, w.rowIs b 49 5 f ∧ f 0 = .int .u32 0 ∧ f 1 = .int .i32 1 ∧ f 3 = .iface 65 (.pointer (some ⟨G, 0, none⟩)) ∧ Ready q C w.heap.size w G ∧ b < C ∧ Below B w0 w

set_option maxHeartbeats 800000 in
set_option maxRecDepth 100000 in
theorem rep_once (q : Bool) (B b S cap : Nat) (f : Nat → Value) (w : World) (hr : w.rowIs b 49 5 f) (h0 : f 0 = .int .u32 0) (h1 : f 1 = .int .i32 1) (h3 : f 3 = .nilIface) (h4 : f 4 = .slice (some ⟨S, 0, none⟩) (2 * kn q) cap) (hS : S < w.heap.size) (hcap : 2 * kn q ≤ cap) (hk : Olds q S w) (hB : B ≤ b) :
    Calls Try.prog 21 #[.pointer (some ⟨b, 0, none⟩)] w fun e w' => e = .returned (.tuple #[]) ∧ Built q B w.heap.size b w w' := by
  have HM := Aside0.mk (rep_build q b S cap f w hr h4 hS hcap hk)
  have HR := Aside0.mk hr
  have hbl := hr.lt
  clear hr hk
  go_enter Try.func21, Try.ntmps21
  go_wp2_with fail
  refine HM.out.mono ?_
  rintro e w1 ⟨G, rfl, hRd, hBe⟩
  have r1 : w1.rowIs b 49 5 f := HR.out.of_block (hBe.block b hbl)
  have c3 := r1.cell (i := 3) (by omega)
  rw [h3] at c3
  have c4 := r1.cell (i := 4) (by omega)
  rw [h4] at c4
  have z3 := r1.frozen 3
  have z4 := r1.frozen 4
  have HW : Aside0 (Built q B w.heap.size b w ((w1.setCell ⟨b, 3, none⟩ (.iface 65 (.pointer (some ⟨G, 0, none⟩)))).setCell ⟨b, 4, none⟩ (.slice none 0 0))) := ⟨by
    refine ⟨G, _, (r1.set 3 _).set 4 _, h0, h1, rfl, ?_, hbl, ?_⟩
    · have : ((w1.setCell ⟨b, 3, none⟩ (.iface 65 (.pointer (some ⟨G, 0, none⟩)))).setCell ⟨b, 4, none⟩ (.slice none 0 0)).heap.size = w1.heap.size := by simp
      rw [this]
      refine hRd.of_blocks (fun k hk _ => ?_)
      rw [Below.heap_setCell _ _ _ _ (show k ≠ b by omega), Below.heap_setCell _ _ _ _ (show k ≠ b by omega)]
    · exact ((hBe.mono (by omega)).setCell (p := ⟨b, 3, none⟩) hB _).setCell (p := ⟨b, 4, none⟩) hB _⟩
  clear hRd hBe r1
  go_wp2
  go_end0
  exact ⟨rfl, HW.out⟩

theorem rep_method (p : Option Addr) (w : World) : (method 249 65 (.pointer p) "Replace").run Try.prog w = .ok (84, .pointer p) w := by kernel_rfl
theorem rep_ahead (a : Addr) (w : World) : (nilAhead 249 65 (.pointer (some a)) "Replace").run Try.prog w = .ok (some false) w := by kernel_rfl

set_option maxHeartbeats 800000 in
set_option maxRecDepth 100000 in
theorem rep_replace (q : Bool) (B b S cap : Nat) (f : Nat → Value) (s : ByteArray) (w : World) (hs : s.size ≤ 1048576) (hr : w.rowIs b 49 5 f) (h0 : f 0 = .int .u32 0) (h1 : f 1 = .int .i32 0) (h3 : f 3 = .nilIface) (h4 : f 4 = .slice (some ⟨S, 0, none⟩) (2 * kn q) cap)
    (hS : S < w.heap.size) (hcap : 2 * kn q ≤ cap) (hk : Olds q S w) (hSb : S ≠ b) (hB : B ≤ b) :
    Calls Try.prog 15 #[.pointer (some ⟨b, 0, none⟩), .string s] w fun e w' => e = .returned (.string ⟨(escL q s.data.toList).toArray⟩) ∧ Below B w w' := by
  have c0 := hr.cell (i := 0) (by omega)
  rw [h0] at c0
  have c1 := hr.cell (i := 1) (by omega)
  rw [h1] at c1
  have hmeth := rep_method
  have hna := rep_ahead
  have hmf : ∀ (fn : Fn) (first cap : Array Value) (w : World), (Instr.makeFunc fn first cap).run Try.prog w = .ok (.func fn first cap) w := fun _ _ _ _ => rfl
  have hk1 : Olds q S (w.setCell ⟨b, 1, none⟩ (.int .i32 1)) := fun k hkk => by
    have hne : ∀ j, (⟨b, 1, none⟩ : Addr) ≠ ⟨S, j, none⟩ := fun j h => hSb (congrArg Addr.block h).symm
    exact ⟨(World.cell?_setCell_other _ _ _ _ (hne _)).trans (hk k hkk).1, (World.cell?_setCell_other _ _ _ _ (hne _)).trans (hk k hkk).2⟩
  have ho := rep_once q B b S cap _ (w.setCell ⟨b, 1, none⟩ (.int .i32 1)) (hr.set 1 (.int .i32 1)) h0 rfl h3 h4 (by simpa using hS) hcap hk1 hB
  have hd := once_do b (.pointer (some ⟨b, 0, none⟩)) (Built q B (w.setCell ⟨b, 1, none⟩ (.int .i32 1)).heap.size b (w.setCell ⟨b, 1, none⟩ (.int .i32 1))) w c0 c1 (hr.frozen 0) (hr.frozen 1) ho (by
    rintro w' ⟨G, f, k0, k1, k2, k3, k4, k5, k6⟩
    have d0 := k0.cell (i := 0) (by omega)
    rw [k1] at d0
    have d1 := k0.cell (i := 1) (by omega)
    rw [k2] at d1
    exact ⟨d0, d1, k0.frozen 0, k0.frozen 1⟩)
  have HD := Aside0.mk hd
  clear hd ho hk1 c0 c1
  go_enter Try.func15, Try.ntmps15
  go_wp2_with fail
  refine HD.out.mono ?_
  rintro e w3 ⟨rfl, w2, ⟨G, f2, k0, k1, k2, k3, k4, k5, k6⟩, hw3⟩
  have hrow : w3.rowIs b 49 5 (fun j => if j = 1 then .int .i32 0 else if j = 0 then .int .u32 1 else f2 j) := by
    rw [hw3]; exact (World.rowIs.set (w := w2.drew) k0 0 _).set 1 _
  have d3 : w3.cell? ⟨b, 3, none⟩ = some (.iface 65 (.pointer (some ⟨G, 0, none⟩))) := (hrow.cell (i := 3) (by omega)).trans (by show some (f2 3) = _; rw [k3])
  have hRd : Aside0 (Ready q (w.setCell ⟨b, 1, none⟩ (.int .i32 1)).heap.size w2.heap.size w3 G) := ⟨by
    refine k4.of_blocks (fun k hk _ => ?_)
    rw [hw3, Below.heap_setCell _ _ _ _ (show k ≠ b by omega), Below.heap_setCell _ _ _ _ (show k ≠ b by omega)]
    rfl⟩
  have hsz : w2.heap.size ≤ w3.heap.size := by rw [hw3]; simp
  have HB : Aside0 (Below B w w3) := ⟨by
    rw [hw3]
    have q1 : Below B w (w.setCell ⟨b, 1, none⟩ (.int .i32 1)) := (Below.refl B w).setCell (p := ⟨b, 1, none⟩) hB _
    exact ((((q1.trans k6).drew).setCell (p := ⟨b, 0, none⟩) hB _).setCell (p := ⟨b, 1, none⟩) hB _)⟩
  have hBw : B ≤ w2.heap.size := by have := k0.lt; omega
  clear hrow k0 k1 k2 k3 k4 k5 k6 hw3 hr hk
  go_wp2_with fail
  refine (gen_replace q _ w2.heap.size G s _ hs hRd.out hsz).mono ?_
  rintro e w4 ⟨rfl, hb4⟩
  have HB4 : Aside0 (Below B w w4) := ⟨HB.out.trans (hb4.mono hBw)⟩
  clear hb4
  go_wp2
  go_ret
  exact ⟨rfl, HB4.out⟩
end Go.Proofs.Ytebcdfdkgjcmmaa.Hand
