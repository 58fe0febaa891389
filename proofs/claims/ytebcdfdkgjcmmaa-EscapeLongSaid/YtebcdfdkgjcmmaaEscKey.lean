/- By hand: a key and its value, laid into the root's table. -/
import Derived.Test.YtebcdfdkgjcmmaaEscAdd
namespace Go.Proofs.Ytebcdfdkgjcmmaa.Hand
set_option linter.unusedVariables false
set_option linter.unusedSimpArgs false
open Go Go.RowKit Go.Proofs.YtebcdfdkgjcmmaaW.PrintWords

def keysOf (q : Bool) : List ByteArray := [⟨#[38]⟩, ⟨#[60]⟩, ⟨#[62]⟩, ⟨#[194, 160]⟩] ++ (if q = true then [⟨#[34]⟩] else [])
def valsOf (q : Bool) : List ByteArray := [ampB, ltB, gtB, nbspB] ++ (if q = true then [quotB] else [])
def kn (q : Bool) : Nat := if q = true then 5 else 4
/-- Which key begins with this byte. -/
def kidx (c : UInt8) : Nat := if c = 38 then 0 else if c = 60 then 1 else if c = 62 then 2 else if c = 194 then 3 else if c = 34 then 4 else 100
theorem key_cases (q : Bool) (k : Nat) (h : k < kn q) :
    (∃ c : UInt8, (keysOf q).getD k ByteArray.empty = ⟨#[c]⟩ ∧ (valsOf q).getD k ByteArray.empty = repB c ∧ special q c = true ∧ kidx c = k ∧ mapOf q c < nOf q) ∨
    ((keysOf q).getD k ByteArray.empty = ⟨#[194, 160]⟩ ∧ (valsOf q).getD k ByteArray.empty = nbspB ∧ kidx 194 = k ∧ mapOf q 194 < nOf q) := by
  cases q
  · match k, h with
    | 0, _ => exact .inl ⟨38, rfl, rfl, rfl, rfl, by decide⟩
    | 1, _ => exact .inl ⟨60, rfl, rfl, rfl, rfl, by decide⟩
    | 2, _ => exact .inl ⟨62, rfl, rfl, rfl, rfl, by decide⟩
    | 3, _ => exact .inr ⟨rfl, rfl, rfl, by decide⟩
    | k + 4, h => unfold kn at h; simp at h; omega
  · match k, h with
    | 0, _ => exact .inl ⟨38, rfl, rfl, rfl, rfl, by decide⟩
    | 1, _ => exact .inl ⟨60, rfl, rfl, rfl, rfl, by decide⟩
    | 2, _ => exact .inl ⟨62, rfl, rfl, rfl, rfl, by decide⟩
    | 3, _ => exact .inr ⟨rfl, rfl, rfl, by decide⟩
    | 4, _ => exact .inl ⟨34, rfl, rfl, rfl, rfl, by decide⟩
    | k + 5, h => unfold kn at h; simp at h; omega
theorem kidx_inj_all : (List.range 256).all (fun c => (List.range 256).all fun d => !(kidx (UInt8.ofNat c) == kidx (UInt8.ofNat d)) || kidx (UInt8.ofNat c) == 100 || c == d) = true := by kernel_rfl
theorem kidx_inj {c d : UInt8} (h : kidx c = kidx d) (h2 : kidx c < 100) : c = d := by
  have h1 := List.all_eq_true.1 (List.all_eq_true.1 kidx_inj_all c.toNat (by simp [c.toNat_lt])) d.toNat (by simp [d.toNat_lt])
  simp only [UInt8.ofNat_toNat] at h1
  rw [h] at h1
  have h3 : (kidx d == 100) = false := by rw [beq_eq_false_iff_ne]; omega
  simp [h3] at h1
  exact UInt8.toNat_inj.1 h1
theorem map_inj_all (q : Bool) : (List.range 256).all (fun c => (List.range 256).all fun d => !(mapOf q (UInt8.ofNat c) == mapOf q (UInt8.ofNat d)) || mapOf q (UInt8.ofNat c) == nOf q || c == d) = true := by cases q <;> kernel_rfl
theorem map_inj {q : Bool} {c d : UInt8} (h : mapOf q c = mapOf q d) (h2 : mapOf q d < nOf q) : c = d := by
  have h1 := List.all_eq_true.1 (List.all_eq_true.1 (map_inj_all q) c.toNat (by simp [c.toNat_lt])) d.toNat (by simp [d.toNat_lt])
  simp only [UInt8.ofNat_toNat] at h1
  rw [h] at h1
  have h3 : (mapOf q d == nOf q) = false := by rw [beq_eq_false_iff_ne]; omega
  simp [h3] at h1
  exact UInt8.toNat_inj.1 h1
theorem top_kidx_all (q : Bool) : (List.range 256).all (fun c => !(decide (mapOf q (UInt8.ofNat c) < nOf q)) || c == 160 || decide (kidx (UInt8.ofNat c) < kn q)) = true := by cases q <;> kernel_rfl
theorem top_kidx {q : Bool} {c : UInt8} (h : mapOf q c < nOf q) : c = 160 ∨ kidx c < kn q := by
  have h1 := List.all_eq_true.1 (top_kidx_all q) c.toNat (by simp [c.toNat_lt])
  simp only [UInt8.ofNat_toNat, h] at h1
  simp at h1
  rcases h1 with h1 | h1
  · exact .inl (UInt8.toNat_inj.1 h1)
  · exact .inr h1

theorem rows_ne {w : World} {a b : Nat} {s t : TypeId} {n m : Nat} {f g : Nat → Value} (h : w.rowIs a s n f) (k : w.rowIs b t m g) (hst : s ≠ t) : a ≠ b := by
  rintro rfl
  obtain ⟨c, h1, _⟩ := h
  obtain ⟨d, k1, _⟩ := k
  rw [h1] at k1
  simp only [Option.some.injEq, Obj.cells.injEq] at k1
  exact hst k1.2.1
theorem Entry.keep {q : Bool} {C D D' T n : Nat} {w w' : World} {v : Value} {c : UInt8} {t : Nat → Value} (h : Entry q C D w v c) (hT : w.rowIs T 81 n t) (hD : D ≤ w.heap.size) (hk : Keep T w w') (hDD : D ≤ D') : Entry q C D' w' v c := by
  have hb := hk.2.2.2.2
  rcases h with h | ⟨h1, a, b, p, h2, h3, h4, h5, h6, h7, h8, h9⟩ | ⟨h1, a, p, h2, h3, h4, h5, h6⟩
  · exact .inl h
  · exact .inr (.inl ⟨h1, a, b, p, h2, h3, h4.of_block (hb a (by omega) (rows_ne h4 hT (by decide))), h5.of_block (hb b (by omega) (rows_ne h5 hT (by decide))), h6, by omega, h8, by omega⟩)
  · exact .inr (.inr ⟨h1, a, p, h2, h3, h4.of_block (hb a (by omega) (rows_ne h4 hT (by decide))), h5, by omega⟩)

/-- Behind the key c is laid. -/
def KeyLaid (q : Bool) (C T n : Nat) (c : UInt8) (t : Nat → Value) (w w' : World) : Prop :=
  ∃ v, Entry q C w'.heap.size w' v c ∧ w'.rowIs T 81 n (fun j => if j = mapOf q c then v else t j) ∧ Keep T w w'

theorem keep_trans {T : Nat} {w w1 w2 : World} (h : Keep T w w1) (k : w1.os = w2.os ∧ w1.tape = w2.tape ∧ w1.output = w2.output ∧ w1.heap.size ≤ w2.heap.size ∧ ∀ k, k < w.heap.size → k ≠ T → w2.heap[k]? = w1.heap[k]?) : Keep T w w2 := by
  obtain ⟨h1, h2, h3, h4, h5⟩ := h
  obtain ⟨k1, k2, k3, k4, k5⟩ := k
  exact ⟨k1 ▸ h1, k2 ▸ h2, k3 ▸ h3, by omega, fun i hi hiT => (k5 i hi hiT).trans (h5 i hi hiT)⟩

theorem add_key_leaf (q : Bool) (C G T : Nat) (c : UInt8) (p : Int) (w : World) (g t : Nat → Value) (hp : 0 < p) (hC : C ≤ w.heap.size)
    (hG : w.rowIs G 86 262 g) (hT : w.rowIs T 81 (nOf q) t) (hGT : G ≠ T) (hsp : special q c = true) (hm : mapOf q c < nOf q)
    (g2 : g 2 = .string ⟨#[]⟩) (g4 : g 4 = .slice (some ⟨T, 0, none⟩) (nOf q) (nOf q)) (gm : g (6 + c.toNat) = .int .u8 (mapOf q c)) (ht : t (mapOf q c) = .pointer none) :
    Calls Try.prog 40 #[.pointer (some ⟨G, 0, none⟩), .string ⟨#[c]⟩, .string (repB c), .int .i64 p, .pointer (some ⟨G, 0, none⟩)] w fun e w' => e = .returned (.tuple #[]) ∧ KeyLaid q C T (nOf q) c t w w' := by
  have hn : nOf q < 100 := by unfold nOf; split <;> omega
  refine add_root ⟨#[c]⟩ c ⟨#[]⟩ (by simp [ByteArray.size]) rfl (by simp [ByteArray.size]) rfl G T (nOf q) (mapOf q c) (repB c) p w g t hG hT hGT hm hn g2 g4 gm ht _ (fun W hL => ?_)
  obtain ⟨h1, h2, h3, h4⟩ := hL
  have hTl := hT.lt
  refine (add_here w.heap.size (repB c) p _ W zeroF h1 ⟨_, rfl⟩ rfl).mono ?_
  rintro e w' ⟨rfl, rfl⟩
  have hl : ((W.setCell ⟨w.heap.size, 0, none⟩ (.string (repB c))).setCell ⟨w.heap.size, 1, none⟩ (.int .i64 p)).rowIs w.heap.size 84 5 (leafF (repB c) p) := by
    refine ((h1.set 0 _).set 1 _).congr (fun i hi => ?_)
    match i, hi with
    | 0, _ => rfl
    | 1, _ => rfl
    | 2, _ => rfl
    | 3, _ => rfl
    | 4, _ => rfl
  refine ⟨rfl, .pointer (some ⟨w.heap.size, 0, none⟩), .inr (.inr ⟨hsp, w.heap.size, p, rfl, hp, hl, hC, ?_⟩), ?_, ?_⟩
  · simp [h4]
  · exact (h2.setOther (show T ≠ w.heap.size by omega) _).setOther (show T ≠ w.heap.size by omega) _
  · refine keep_trans h3 ⟨rfl, rfl, rfl, by simp, fun k hk hkT => ?_⟩
    rw [Below.heap_setCell _ _ _ _ (show k ≠ w.heap.size by omega), Below.heap_setCell _ _ _ _ (show k ≠ w.heap.size by omega)]

theorem add_key_stem (q : Bool) (C G T : Nat) (p : Int) (w : World) (g t : Nat → Value) (hp : 0 < p) (hC : C ≤ w.heap.size)
    (hG : w.rowIs G 86 262 g) (hT : w.rowIs T 81 (nOf q) t) (hGT : G ≠ T) (hm : mapOf q 194 < nOf q)
    (g2 : g 2 = .string ⟨#[]⟩) (g4 : g 4 = .slice (some ⟨T, 0, none⟩) (nOf q) (nOf q)) (gm : g (6 + (194 : UInt8).toNat) = .int .u8 (mapOf q 194)) (ht : t (mapOf q 194) = .pointer none) :
    Calls Try.prog 40 #[.pointer (some ⟨G, 0, none⟩), .string ⟨#[194, 160]⟩, .string nbspB, .int .i64 p, .pointer (some ⟨G, 0, none⟩)] w fun e w' => e = .returned (.tuple #[]) ∧ KeyLaid q C T (nOf q) 194 t w w' := by
  have hn : nOf q < 100 := by unfold nOf; split <;> omega
  refine add_root ⟨#[194, 160]⟩ 194 ⟨#[160]⟩ (by simp [ByteArray.size]) rfl (by simp [ByteArray.size]) rfl G T (nOf q) (mapOf q 194) nbspB p w g t hG hT hGT hm hn g2 g4 gm ht _ (fun W hL => ?_)
  obtain ⟨h1, h2, h3, h4⟩ := hL
  have hTl := hT.lt
  refine (add_stem w.heap.size nbspB p _ W h1).mono ?_
  rintro e w' ⟨rfl, k1, k2, k3, k4, k5, k6, k7⟩
  refine ⟨rfl, .pointer (some ⟨w.heap.size, 0, none⟩), .inr (.inl ⟨rfl, w.heap.size, W.heap.size, p, rfl, hp, k1, k2, hC, ?_, by omega, k2.lt⟩), ?_, ?_⟩
  · have := k2.lt; omega
  · exact h2.of_block (k7 T (by omega) (by omega))
  · exact keep_trans h3 ⟨k3.symm, k4.symm, k5.symm, k6, fun k hk hkT => k7 k (by omega) (by omega)⟩
end Go.Proofs.Ytebcdfdkgjcmmaa.Hand
