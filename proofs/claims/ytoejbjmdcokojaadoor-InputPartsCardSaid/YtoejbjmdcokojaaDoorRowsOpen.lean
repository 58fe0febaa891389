/- By hand: rows of bytes that come in, opened for InputParts. -/
import Derived.Test.YtoejbjmdcokojaaDoorInParts
import Derived.Deep.Matrix
import Derived.SizedLaws
namespace Go.Proofs.YtoejbjmdcokojaaDoor.Hand
set_option linter.unusedVariables false
set_option linter.unusedSimpArgs false
open Go Go.RowKit Go.Deep Go.ChangeShapes Go.WideShapes

theorem weights_mem_all {H : Type} {P : Program} {e : TypeId} : ∀ {l : List (DataW H)} {d : DataW H}, d ∈ l → ∀ n ∈ d.weights P e, n ∈ DataW.weightsAll P e l
  | x :: l, d, hd, n, hn => by
    simp only [DataW.weightsAll, List.mem_append]
    rcases List.mem_cons.1 hd with rfl | hd
    · exact .inl hn
    · exact .inr (weights_mem_all hd n hn)
theorem bytes23 : Tryd.prog.bytesOf 23 = 24 := by kernel_rfl
theorem bytes5 : Tryd.prog.bytesOf 5 = 1 := by kernel_rfl
theorem cells23 : Tryd.prog.cellsOf 23 = 1 := by kernel_rfl
theorem cells5 : Tryd.prog.cellsOf 5 = 1 := by kernel_rfl
theorem reach_num : reachBytes = 140737488351232 := rfl
def rowBytes (Z : List Int) (L : Nat) : List UInt8 := (Z.take L).map fun n => UInt8.ofNat n.toNat
theorem rowBytes_len {Z : List Int} {L : Nat} (h : L ≤ Z.length) : (rowBytes Z L).length = L := by
  unfold rowBytes
  rw [List.length_map, List.length_take]
  omega
theorem rowBytes_at {Z : List Int} {L j : Nat} (hw : ∀ n ∈ Z, (Lit.int .u8 n).wf = true) (hj : j < L) (hL : L ≤ Z.length) : (((rowBytes Z L).getD j 0).toNat : Int) = Z.getD j 0 := by
  have hj' : j < Z.length := by omega
  have h := hw Z[j] (List.getElem_mem hj')
  unfold Lit.wf at h
  rw [Bool.and_eq_true, decide_eq_true_eq, decide_eq_true_eq] at h
  have e1 : IntKind.u8.min = 0 := by decide
  have e2 : IntKind.u8.max = 255 := by decide
  rw [List.getD_eq_getElem?_getD, List.getD_eq_getElem?_getD]
  unfold rowBytes
  rw [List.getElem?_map, List.getElem?_take, if_pos hj, List.getElem?_eq_getElem hj']
  simp only [Option.map_some, Option.getD_some, UInt8.toNat_ofNat']
  omega
theorem spot_none {w : World} {a : Addr} {v : Value} (h : w.cell? a = some v) : a.spot = none := by
  rcases hs : a.spot with _ | x
  · rfl
  · exfalso
    unfold World.cell? at h
    rw [hs] at h
    split at h <;> simp at h
theorem add_at (b o k : Nat) : (⟨b, o, none⟩ : Addr).add k = ⟨b, o + k, none⟩ := by unfold Addr.add; split <;> simp_all

theorem rows_open {H : Type} {enc : TypeId × Value → H} {W : World} {base : Nat} {held : Bool} {ts : List TypeId} {ds : List (DataW H)} {d : DataW H} {a : Option Addr} {len cap : Nat} {ps : List MemPlace}
    (hsz : (DataW.weightsEach Tryd.prog ts ds).all (· ≤ reachBytes) = true) (ht : ts[0]? = some 32) (hd : ds[0]? = some d) (h : DataW.Trod enc Tryd.prog W base (fun _ => true) held 32 (.slice a len cap) d ps) :
    len ≤ cap ∧ len * 24 ≤ 140737488351232 ∧ ∃ A C bs, RowsIn W a len A C bs := by
  obtain ⟨fuel, hf⟩ := h
  rcases open_int_rows Tryd.underlying32 Tryd.underlying23 Tryd.underlying5 cells23 cells5 hf with ⟨hcs, _⟩ | ⟨x, l, c, A, L, C, Z, hcs, _, hl, hm, hx, hrows⟩
  · simp [Value.cells] at hcs
    obtain ⟨rfl, rfl, rfl⟩ := hcs
    exact ⟨Nat.le_refl _, by omega, fun _ => none, fun _ => 0, fun _ => [], ⟨fun h => by omega, fun r h => by omega, fun r h => by omega, fun r h => by omega⟩⟩
  · simp [Value.cells] at hcs
    obtain ⟨rfl, rfl, rfl⟩ := hcs
    obtain ⟨hx, _⟩ := Prod.mk.inj hx
    subst hx
    have z := sized_slice hsz ht hd Tryd.underlying32
    rw [bytes23, reach_num] at z
    simp only [List.length_map, List.length_range] at z
    have hlen : len * 24 ≤ 140737488351232 := by omega
    have hLC : ∀ r, r < len → L r ≤ (Z r).length := fun r hr => by
      obtain ⟨_, h1, _, h2, _⟩ := hrows r (by omega)
      omega
    have hreach : ∀ r, r < len → L r ≤ 140737488351232 := fun r hr => by
      obtain ⟨_, h1, _, h2, _, h3, _⟩ := hrows r (by omega)
      cases hA : A r with
      | none => have := h3 hA; omega
      | some a' =>
        have hin : (((Z r).length - 0) * 1) ≤ reachBytes := by
          have hmem : intRow (H := H) .u8 (A r) (L r) (Z r) ∈ (List.range len).map fun r => intRow (H := H) .u8 (A r) (L r) (Z r) := List.mem_map.2 ⟨r, List.mem_range.2 hr, rfl⟩
          have hw := weights_mem_all (P := Tryd.prog) (e := 23) hmem ((Z r).length) (by
            rw [hA]
            unfold intRow
            simp only [DataW.weights, Tryd.underlying23, bytes5]
            refine List.mem_cons.2 (.inl ?_)
            simp [lits]
            have := hLC r hr
            omega)
          have hall := List.all_eq_true.1 hsz _ (DataW.weights_mem_each ht hd ((Z r).length) (by
            simp only [DataW.weights, Tryd.underlying32]
            exact List.mem_cons_of_mem _ (List.mem_append.2 (.inl hw))))
          simpa using hall
        rw [reach_num] at hin
        have := hLC r hr
        omega
    refine ⟨hl, hlen, A, C, fun r => rowBytes (Z r) (L r), ⟨fun h0 => ?_, fun r hr => ?_, fun r hr => ?_, fun r hr h0 => ?_⟩⟩
    · obtain ⟨xb, xo, xs⟩ := x
      obtain ⟨hc0, _⟩ := hrows 0 (by omega)
      have hs : xs = none := by
        have := spot_none hc0
        unfold Addr.add at this
        rw [if_pos rfl] at this
        exact this
      subst hs
      refine ⟨xb, xo, rfl, ?_, fun r hr => ?_⟩
      · rw [add_at] at hc0
        exact World.block_lt_of_cell? W ⟨xb, xo + 0, none⟩ hc0
      · have hc := (hrows r (by omega)).1
        rw [add_at] at hc
        rw [hc, rowBytes_len (hLC r hr)]
    · rw [rowBytes_len (hLC r hr)]; exact (hrows r (by omega)).2.1
    · rw [rowBytes_len (hLC r hr)]; exact hreach r hr
    · rw [rowBytes_len (hLC r hr)] at h0
      obtain ⟨_, h1, _, h2, hwf, h3, h4⟩ := hrows r (by omega)
      cases hA : A r with
      | none => have := h3 hA; omega
      | some a' =>
        obtain ⟨_, hcell⟩ := h4 a' hA
        obtain ⟨ab, ao, as_⟩ := a'
        have hc0 := hcell 0 (by omega)
        have hs : as_ = none := by
          have := spot_none hc0
          unfold Addr.add at this
          rw [if_pos rfl] at this
          exact this
        subst hs
        rw [add_at] at hc0
        refine ⟨ab, ao, rfl, World.block_lt_of_cell? W ⟨ab, ao + 0, none⟩ hc0, fun j hj => ?_⟩
        rw [rowBytes_len (hLC r hr)] at hj
        have hc := hcell j (by omega)
        rw [add_at] at hc
        rw [hc, rowBytes_at hwf hj (hLC r hr)]
end Go.Proofs.YtoejbjmdcokojaaDoor.Hand
