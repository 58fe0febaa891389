/- By hand: a key laid into the trie. -/
import Derived.Test.YtebcdfdkgjcmmaaEscSpec
namespace Go.Proofs.Ytebcdfdkgjcmmaa.Hand
set_option linter.unusedVariables false
set_option linter.unusedSimpArgs false
open Go Go.RowKit Go.Proofs.YtebcdfdkgjcmmaaW.PrintWords

def zeroF : Nat → Value
  | 0 => .string ⟨#[]⟩
  | 1 => .int .i64 0
  | 2 => .string ⟨#[]⟩
  | 3 => .pointer none
  | _ => .slice none 0 0
def Z84 : Array Value := #[.string ⟨#[]⟩, .int .i64 0, .string ⟨#[]⟩, .pointer none, .slice none 0 0]
theorem zero_row (w : World) : (w.alloc (.cells Z84 84)).rowIs w.heap.size 84 5 zeroF := by
  refine World.rowIs_alloc w Z84 84 zeroF (fun i hi => ?_)
  have : i < 5 := hi
  match i, this with
  | 0, _ => rfl
  | 1, _ => rfl
  | 2, _ => rfl
  | 3, _ => rfl
  | 4, _ => rfl

set_option maxHeartbeats 2000000 in
set_option maxRecDepth 100000 in
theorem add_here (a : Nat) (val : ByteArray) (p : Int) (rv : Value) (w : World) (f : Nat → Value) (h : w.rowIs a 84 5 f) (hx : ∃ s0, f 0 = .string s0) (h1 : f 1 = .int .i64 0) :
    Calls Try.prog 40 #[.pointer (some ⟨a, 0, none⟩), .string ⟨#[]⟩, .string val, .int .i64 p, rv] w fun e w' => e = .returned (.tuple #[]) ∧ w' = (w.setCell ⟨a, 0, none⟩ (.string val)).setCell ⟨a, 1, none⟩ (.int .i64 p) := by
  obtain ⟨s0, hx⟩ := hx
  have a0 := h.cell (i := 0) (by omega)
  have a1 := h.cell (i := 1) (by omega)
  have z0 := h.frozen 0
  have z1 := h.frozen 1
  rw [hx] at a0
  rw [h1] at a1
  clear h
  go_enter Try.func40, Try.ntmps40
  go_wp2
  all_goals (first | go_end0 | refine bodyPost_ret (results_none rfl _ _ _) rfl ?_)
  exact ⟨rfl, rfl⟩

set_option maxHeartbeats 400000 in
set_option maxRecDepth 100000 in
theorem add_stem (a : Nat) (val : ByteArray) (p : Int) (rv : Value) (w : World) (h : w.rowIs a 84 5 zeroF) :
    Calls Try.prog 40 #[.pointer (some ⟨a, 0, none⟩), .string ⟨#[160]⟩, .string val, .int .i64 p, rv] w fun e w' => e = .returned (.tuple #[]) ∧
      w'.rowIs a 84 5 (stemF w.heap.size) ∧ w'.rowIs w.heap.size 84 5 (leafF val p) ∧ w'.os = w.os ∧ w'.tape = w.tape ∧ w'.output = w.output ∧ w.heap.size ≤ w'.heap.size ∧ ∀ k, k < w.heap.size → k ≠ a → w'.heap[k]? = w.heap[k]? := by
  have a0 : w.cell? ⟨a, 0, none⟩ = some (.string ⟨#[]⟩) := h.cell (i := 0) (by omega)
  have a1 : w.cell? ⟨a, 1, none⟩ = some (.int .i64 0) := h.cell (i := 1) (by omega)
  have a2 : w.cell? ⟨a, 2, none⟩ = some (.string ⟨#[]⟩) := h.cell (i := 2) (by omega)
  have a3 : w.cell? ⟨a, 3, none⟩ = some (.pointer none) := h.cell (i := 3) (by omega)
  have a4 : w.cell? ⟨a, 4, none⟩ = some (.slice none 0 0) := h.cell (i := 4) (by omega)
  have z2 := h.frozen 2
  have z3 := h.frozen 3
  have hlt := h.lt
  have hsn2 := slice_nil_nil
  have hrow : (((w.setCell ⟨a, 2, none⟩ (.string ⟨#[160]⟩)).setCell ⟨a, 3, none⟩ (.pointer (some ⟨w.heap.size, 0, none⟩))).alloc (.cells Z84 84)).rowIs w.heap.size 84 5 zeroF := by
    have := zero_row ((w.setCell ⟨a, 2, none⟩ (.string ⟨#[160]⟩)).setCell ⟨a, 3, none⟩ (.pointer (some ⟨w.heap.size, 0, none⟩)))
    simpa using this
  have hrowa : (((w.setCell ⟨a, 2, none⟩ (.string ⟨#[160]⟩)).setCell ⟨a, 3, none⟩ (.pointer (some ⟨w.heap.size, 0, none⟩))).alloc (.cells Z84 84)).rowIs a 84 5 (stemF w.heap.size) := by
    refine (((h.set 2 _).set 3 _).alloc _).congr (fun i hi => ?_)
    match i, hi with
    | 0, _ => rfl
    | 1, _ => rfl
    | 2, _ => rfl
    | 3, _ => rfl
    | 4, _ => rfl
  have H1 := Aside0.mk hrow
  have H2 := Aside0.mk hrowa
  clear hrow hrowa h
  go_enter Try.func40, Try.ntmps40
  go_wp2_with (go_at_call 40; refine (add_here w.heap.size val p rv _ zeroF H1.out ⟨_, rfl⟩ rfl).mono ?_; rintro e w1 ⟨rfl, hw1⟩; have HW := Aside0.mk hw1; clear hw1)
  go_end0
  rw [HW.out]
  refine ⟨rfl, ?_, ?_, rfl, rfl, rfl, ?_, ?_⟩
  · refine World.rowIs.setOther (World.rowIs.setOther H2.out ?_ _) ?_ _
    · show a ≠ w.heap.size; omega
    · show a ≠ w.heap.size; omega
  · refine ((H1.out.set 0 _).set 1 _).congr (fun i hi => ?_)
    match i, hi with
    | 0, _ => rfl
    | 1, _ => rfl
    | 2, _ => rfl
    | 3, _ => rfl
    | 4, _ => rfl
  · simp
  · intro k hk hka
    rw [Below.heap_setCell _ _ _ _ (by show k ≠ w.heap.size; omega), Below.heap_setCell _ _ _ _ (by show k ≠ w.heap.size; omega), Below.heap_alloc _ _ _ (by simpa using hk), Below.heap_setCell _ _ _ _ hka, Below.heap_setCell _ _ _ _ hka]

/-- What has not turned: all but block T. -/
def Keep (T : Nat) (w w' : World) : Prop := w'.os = w.os ∧ w'.tape = w.tape ∧ w'.output = w.output ∧ w.heap.size ≤ w'.heap.size ∧ ∀ k, k < w.heap.size → k ≠ T → w'.heap[k]? = w.heap[k]?

/-- A new node, laid into the table at m. -/
def Laid (T n m : Nat) (t : Nat → Value) (w W : World) : Prop :=
  W.rowIs w.heap.size 84 5 zeroF ∧ W.rowIs T 81 n (fun j => if j = m then .pointer (some ⟨w.heap.size, 0, none⟩) else t j) ∧ Keep T w W ∧ W.heap.size = w.heap.size + 1
theorem laid_of (T n m : Nat) (t : Nat → Value) (w : World) (hT : w.rowIs T 81 n t) (d : Nat) : Laid T n m t w (((w.drewN d).alloc (.cells Z84 84)).setCell ⟨T, m, none⟩ (.pointer (some ⟨w.heap.size, 0, none⟩))).drew := by
  show Laid T n m t w (((w.drewN d).alloc (.cells Z84 84)).setCell ⟨T, m, none⟩ (.pointer (some ⟨w.heap.size, 0, none⟩)))
  have hl := hT.lt
  have hT' : (w.drewN d).rowIs T 81 n t := hT
  refine ⟨?_, (hT'.alloc _).set m _, ⟨rfl, rfl, rfl, ?_, ?_⟩, ?_⟩
  · refine World.rowIs.setOther (zero_row (w.drewN d)) ?_ _
    show w.heap.size ≠ T
    omega
  · show w.heap.size ≤ _
    simp [World.drewN]
  · intro k hk hkT
    rw [Below.heap_setCell _ _ _ _ hkT]
    exact Below.heap_alloc (w.drewN d) _ _ hk
  · simp [World.drewN]

theorem eql_nil (w : World) : (binOp .eql 81 (.pointer none) (.pointer none)).run Try.prog w = .ok (.bool true) w := by kernel_rfl

set_option maxHeartbeats 400000 in
set_option maxRecDepth 100000 in
theorem add_root (key : ByteArray) (c : UInt8) (tl : ByteArray) (hk0 : 0 < key.size) (hkc : key[0]'hk0 = c) (hks : key.size < 100) (htl : key.extract 1 key.size = tl) (G T n m : Nat) (val : ByteArray) (p : Int) (w : World) (g t : Nat → Value)
    (hG : w.rowIs G 86 262 g) (hT : w.rowIs T 81 n t) (hGT : G ≠ T) (hm : m < n) (hn : n < 100)
    (g2 : g 2 = .string ⟨#[]⟩) (g4 : g 4 = .slice (some ⟨T, 0, none⟩) n n) (gm : g (6 + c.toNat) = .int .u8 m) (ht : t m = .pointer none)
    (R : World → Prop)
    (hadd : ∀ W, Laid T n m t w W → Calls Try.prog 40 #[.pointer (some ⟨w.heap.size, 0, none⟩), .string tl, .string val, .int .i64 p, .pointer (some ⟨G, 0, none⟩)] W fun e w' => e = .returned (.tuple #[]) ∧ R w') :
    Calls Try.prog 40 #[.pointer (some ⟨G, 0, none⟩), .string key, .string val, .int .i64 p, .pointer (some ⟨G, 0, none⟩)] w fun e w' => e = .returned (.tuple #[]) ∧ R w' := by
  have a2 := hG.cell (i := 2) (by omega)
  have a4 := hG.cell (i := 4) (by omega)
  have hc2 : c.toNat < 256 := c.toNat_lt
  have hc1 : (c.toNat : Int) < 256 := by omega
  have hc0 : (0 : Int) ≤ c.toNat := by omega
  have am := hG.cell (i := 6 + c.toNat) (by omega)
  have tm := hT.cell hm
  have zm := hT.frozen m
  rw [g2] at a2
  rw [g4] at a4
  rw [gm] at am
  rw [ht] at tm
  have hne : key.toList.isEmpty = false := by rw [isEmpty_size, decide_eq_false_iff_not]; omega
  have hk1 : (1 : Int) ≤ key.size := by omega
  have hsn := slice_ne_nil
  have hsn2 := slice_nil_nil
  have hen := eql_nil
  have hmn : (m : Int) < n := by omega
  have hTl := hT.lt
  have hGl := hG.lt
  have hcT : ∀ d o, ((w.drewN d).alloc o).cell? ⟨T, m, none⟩ = some (.pointer none) := fun d o => (World.cell?_alloc_past _ _ _ hTl).trans tm
  have hzT : ∀ d o, ((w.drewN d).alloc o).frozen? ⟨T, m, none⟩ = false := fun d o => (World.frozen?_alloc_past _ _ _ hTl).trans zm
  have hrG : ∀ d o v, (((w.drewN d).alloc o).setCell ⟨T, m, none⟩ v).cell? ⟨G, 4, none⟩ = some (.slice (some ⟨T, 0, none⟩) n n) := fun d o v => (World.cell?_setCell_other _ _ _ _ (fun h => hGT (congrArg Addr.block h).symm)).trans ((World.cell?_alloc_past _ _ _ hGl).trans a4)
  have hrT : ∀ d o v, (((w.drewN d).alloc o).setCell ⟨T, m, none⟩ v).cell? ⟨T, m, none⟩ = some v := fun d o v => World.cell?_setCell_same _ _ _ (hcT d o)
  have hlaid := Aside0.mk (laid_of T n m t w hT)
  have HA := Aside0.mk hadd
  clear hG hT g2 g4 gm ht hadd
  go_enter Try.func40, Try.ntmps40
  go_wp2_with fail
  go_quiet (fail)
  go_wp2_with fail
  go_region_with (go_at_call 40; refine (HA.out _ (hlaid.out _)).mono ?_; rintro e w1 ⟨rfl, hr⟩)
  go_wp2
  go_end0
  exact ⟨rfl, hr⟩
end Go.Proofs.Ytebcdfdkgjcmmaa.Hand
