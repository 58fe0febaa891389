/- By hand: the replacer is built. -/
import Derived.Test.YtebcdfdkgjcmmaaEscKey
import Derived.Deep.MidRow
namespace Go.Proofs.Ytebcdfdkgjcmmaa.Hand
set_option linter.unusedVariables false
set_option linter.unusedSimpArgs false
open Go Go.RowKit Go.Proofs.YtebcdfdkgjcmmaaW.PrintWords

def marks (q : Bool) (k : Nat) : List Nat := ((keysOf q).take k).flatMap fun s => s.data.toList.map UInt8.toNat
def BaseG (g : Nat → Value) (n : Nat) : Prop := g 1 = .int .i64 0 ∧ g 2 = .string ⟨#[]⟩ ∧ g 5 = .int .i64 n ∧ ∃ v, g 4 = .slice v 0 0
def MarkG (g : Nat → Value) (h : Nat → Nat) : Prop := ∀ c, c < 256 → g (6 + c) = .int .u8 (h c)
def mk01 (M : List Nat) (c : Nat) : Nat := if c ∈ M then 1 else 0
theorem zero86_size : Try.zeroCells86.size = 262 := by kernel_rfl
theorem zero86_drop : Try.zeroCells86.toList.drop 6 = List.replicate 256 (.int .u8 0) := by kernel_rfl
theorem zero86_row (w : World) : ∃ g, (w.alloc (.cells Try.zeroCells86 86)).rowIs w.heap.size 86 262 g ∧ BaseG g 0 ∧ MarkG g (mk01 []) := by
  refine ⟨fun i => Try.zeroCells86.toList.getD i undef, ?_, ⟨by kernel_rfl, by kernel_rfl, by kernel_rfl, none, by kernel_rfl⟩, ?_⟩
  · have h := World.rowIs_alloc w Try.zeroCells86 86 (fun i => Try.zeroCells86.toList.getD i undef) (fun i hi => by
      rw [List.getD_eq_getElem?_getD, Array.getElem?_toList, Array.getElem?_eq_getElem hi]; rfl)
    rw [zero86_size] at h
    exact h
  · intro c hc
    show Try.zeroCells86.toList.getD (6 + c) undef = _
    have h : (Try.zeroCells86.toList.drop 6)[c]? = some (.int .u8 0) := by rw [zero86_drop, List.getElem?_replicate, if_pos hc]
    rw [List.getElem?_drop] at h
    rw [List.getD_eq_getElem?_getD, h]
    rfl
theorem mark_set {g : Nat → Value} {M : List Nat} {cb : Nat} (h : MarkG g (mk01 M)) : MarkG (fun j => if j = 6 + cb then .int .u8 1 else g j) (mk01 (M ++ [cb])) := by
  intro c hc
  show (if 6 + c = 6 + cb then (Value.int .u8 1 : Value) else g (6 + c)) = _
  unfold mk01
  by_cases e : c = cb
  · rw [if_pos (by omega), if_pos (by simp [e])]; rfl
  · rw [if_neg (by omega), h c hc]
    unfold mk01
    simp [e]
theorem base_set {g : Nat → Value} {n j0 : Nat} {v : Value} (h : BaseG g n) (hj : 6 ≤ j0) : BaseG (fun j => if j = j0 then v else g j) n := by
  obtain ⟨h1, h2, h3, v4, h4⟩ := h
  refine ⟨?_, ?_, ?_, v4, ?_⟩
  · show (if 1 = j0 then v else g 1) = _; rw [if_neg (by omega), h1]
  · show (if 2 = j0 then v else g 2) = _; rw [if_neg (by omega), h2]
  · show (if 5 = j0 then v else g 5) = _; rw [if_neg (by omega), h3]
  · show (if 4 = j0 then v else g 4) = _; rw [if_neg (by omega), h4]
theorem marks_succ (q : Bool) (k : Nat) (h : k < kn q) : marks q (k + 1) = marks q k ++ ((keysOf q).getD k ByteArray.empty).data.toList.map UInt8.toNat := by
  have hl : k < (keysOf q).length := by unfold keysOf; unfold kn at h; cases q <;> simpa using h
  unfold marks
  rw [List.take_add_one, List.flatMap_append, List.getElem?_eq_getElem hl]
  simp [List.getD_eq_getElem?_getD, List.getElem?_eq_getElem hl]
theorem key_size (q : Bool) (k : Nat) : ((keysOf q).getD k ByteArray.empty).size ≤ 2 := by
  unfold keysOf
  cases q
  · match k with
    | 0 | 1 | 2 | 3 => decide
    | k + 4 => simp
  · match k with
    | 0 | 1 | 2 | 3 | 4 => decide
    | k + 5 => simp
theorem take_bytes (s : ByteArray) (j : Nat) (h : j < s.size) : (s.data.toList.map UInt8.toNat).take (j + 1) = (s.data.toList.map UInt8.toNat).take j ++ [(s[j]'h).toNat] := by
  rw [List.take_add_one, List.getElem?_map]
  have : s.data.toList[j]? = some (s[j]'h) := by
    rw [List.getElem?_eq_getElem (by simpa using h)]; rfl
  rw [this]; rfl

def cntB (h : Nat → Nat) : Nat → Nat
  | 0 => 0
  | k + 1 => cntB h k + h k
theorem mk01_le (M : List Nat) (c : Nat) : mk01 M c ≤ 1 := by unfold mk01; split <;> omega
theorem cntB_le (M : List Nat) (k : Nat) : cntB (mk01 M) k ≤ k := by
  induction k with
  | zero => exact Nat.le_refl _
  | succ k ih => have := mk01_le M k; rw [cntB]; omega
/-- What a byte is mapped to, k bytes being done. -/
def mapK (M : List Nat) (k c : Nat) : Nat := if c < k then (if mk01 M c = 0 then cntB (mk01 M) 256 else cntB (mk01 M) c) else mk01 M c
theorem cnt_all (q : Bool) : cntB (mk01 (marks q (kn q))) 256 = nOf q := by cases q <;> kernel_rfl
theorem map_all (q : Bool) : (List.range 256).all (fun c => mapK (marks q (kn q)) 256 c == mapOf q (UInt8.ofNat c)) = true := by cases q <;> kernel_rfl
theorem map_eq (q : Bool) (c : UInt8) : mapK (marks q (kn q)) 256 c.toNat = mapOf q c := by
  have h := List.all_eq_true.1 (map_all q) c.toNat (by simp [c.toNat_lt])
  have h2 := eq_of_beq h
  rw [h2]
  simp
theorem base_five {g : Nat → Value} {n n' : Nat} (h : BaseG g n) : BaseG (fun j => if j = 5 then .int .i64 n' else g j) n' := by
  obtain ⟨h1, h2, h3, v4, h4⟩ := h
  exact ⟨h1, h2, rfl, v4, h4⟩
theorem mark_five {g : Nat → Value} {h : Nat → Nat} {v : Value} (hm : MarkG g h) : MarkG (fun j => if j = 5 then v else g j) h := by
  intro c hc
  show (if 6 + c = 5 then v else g (6 + c)) = _
  rw [if_neg (by omega), hm c hc]
theorem mark_map {g : Nat → Value} {M : List Nat} {k n : Nat} (hm : MarkG g (mapK M k)) (hn : n = mapK M (k + 1) k) : MarkG (fun j => if j = 6 + k then .int .u8 n else g j) (mapK M (k + 1)) := by
  intro c hc
  show (if 6 + c = 6 + k then (Value.int .u8 n : Value) else g (6 + c)) = _
  by_cases e : c = k
  · rw [if_pos (by omega), hn, e]
  · rw [if_neg (by omega), hm c hc]
    unfold mapK
    by_cases h1 : c < k
    · rw [if_pos h1, if_pos (show c < k + 1 by omega)]
    · rw [if_neg h1, if_neg (show ¬ c < k + 1 by omega)]
theorem run_index_byte (cs : List Value) (k x : Nat) (w : World) (hk : k < 256) (h : cs[k]? = some (.int .u8 x)) : (Instr.index 67 (.agg cs.toArray) (.int .i64 k)).run Try.prog w = .ok (.int .u8 x) w := by
  have h1 : (underlying 67).run Try.prog w = .ok (.array 256 5) w := run_underlying Try.underlying67 w
  have h2 : (sizeOf 5).run Try.prog w = .ok 1 w := by kernel_rfl
  have h3 : (isAgg 5).run Try.prog w = .ok false w := by kernel_rfl
  unfold Instr.index
  simp [Sem.run_bind, asIntOf, h1, h2, h3, part, h, hk]
theorem cntB_mono (h : Nat → Nat) (a b : Nat) (hab : a ≤ b) : cntB h a ≤ cntB h b := by
  induction hab with
  | refl => exact Nat.le_refl _
  | step _ ih => rw [cntB]; omega
theorem range_of {w : World} {G : Nat} {g : Nat → Value} {h : Nat → Nat} {cs : List Value} (hr : w.rowIs G 86 262 g) (hm : MarkG g h) (hl : cs.length = 256) (hcs : ∀ c, c < 256 → cs[c]? = some (.int .u8 (h c))) : w.rangeAt G 6 cs := by
  intro j v hv
  have hj : j < 256 := by
    rcases Nat.lt_or_ge j 256 with h | h
    · exact h
    · rw [List.getElem?_eq_none (by omega)] at hv; cases hv
  have hc := hr.cell (i := 6 + j) (by omega)
  rw [hc, hm j hj, ← hcs j hj, hv]
theorem agg_at (cs : List Value) (k : Nat) (v : Value) (h : cs[k]? = some v) : cs.toArray[k]? = some v := by simpa using h

def TabOK (q : Bool) (k C : Nat) (w : World) (t : Nat → Value) : Prop :=
  ∀ c : UInt8, mapOf q c < nOf q → if kidx c < k then Entry q C w.heap.size w (t (mapOf q c)) c else t (mapOf q c) = .pointer none
def GOK (q : Bool) (g : Nat → Value) (T : Nat) : Prop :=
  g 1 = .int .i64 0 ∧ g 2 = .string ⟨#[]⟩ ∧ g 4 = .slice (some ⟨T, 0, none⟩) (nOf q) (nOf q) ∧ g 5 = .int .i64 (nOf q) ∧ ∀ c : UInt8, g (6 + c.toNat) = .int .u8 (mapOf q c)
theorem ptr_info : (Try.prog.info? 81).map (fun i => (i.zero, i.size, i.bytes)) = some (some (.pointer none), 1, 8) := by kernel_rfl
theorem Entry.drew {q : Bool} {C D : Nat} {w : World} {v : Value} {c : UInt8} (h : Entry q C D w v c) : Entry q C D w.drew v c := h.of_blocks fun _ _ _ => rfl
theorem TabOK.drew {q : Bool} {k C : Nat} {w : World} {t : Nat → Value} (h : TabOK q k C w t) : TabOK q k C w.drew t := h
theorem tab_step {q : Bool} {k C T : Nat} {w w' : World} {t : Nat → Value} {c : UInt8} (h : TabOK q k C w t) (hT : w.rowIs T 81 (nOf q) t) (hc : kidx c = k) (hk : k < 100) (hm : mapOf q c < nOf q)
    (hl : KeyLaid q C T (nOf q) c t w w') : ∃ t', w'.rowIs T 81 (nOf q) t' ∧ TabOK q (k + 1) C w' t' ∧ Keep T w w' := by
  obtain ⟨v, h1, h2, h3⟩ := hl
  refine ⟨_, h2, fun d hd => ?_, h3⟩
  show if kidx d < k + 1 then Entry q C w'.heap.size w' (if mapOf q d = mapOf q c then v else t (mapOf q d)) d else (if mapOf q d = mapOf q c then v else t (mapOf q d)) = .pointer none
  by_cases e : d = c
  · rw [e, if_pos (by omega), if_pos rfl]
    exact h1
  · rw [if_neg (fun e2 => e (map_inj e2 hm))]
    have hd2 := h d hd
    by_cases hk2 : kidx d < k
    · rw [if_pos hk2] at hd2
      rw [if_pos (by omega)]
      exact hd2.keep hT (Nat.le_refl _) h3 h3.2.2.2.1
    · rw [if_neg hk2] at hd2
      have : kidx d ≠ k := fun e2 => e (kidx_inj (by rw [hc, e2]) (by omega))
      rw [if_neg (by omega)]
      exact hd2
theorem keep_below {T C : Nat} {w w' : World} (h : Keep T w w') (hT : C ≤ T) (hC : C ≤ w.heap.size) : Below C w w' :=
  ⟨h.1, h.2.1, h.2.2.1, h.2.2.2.1, fun k hk => h.2.2.2.2 k (by omega) (by omega)⟩
theorem ready_of {q : Bool} {C G T : Nat} {w : World} {g t : Nat → Value} (hG : w.rowIs G 86 262 g) (hT : w.rowIs T 81 (nOf q) t) (hg : GOK q g T) (ht : TabOK q (kn q) C w t) (h1 : C ≤ G) (h2 : C ≤ T) : Ready q C w.heap.size w G := by
  obtain ⟨g1, g2, g4, g5, gm⟩ := hg
  refine ⟨T, g, t, hG, h1, hG.lt, g1, g4, g5, gm, hT, h2, hT.lt, fun c hc => ?_⟩
  have h := ht c hc
  rcases top_kidx hc with e | e
  · rw [e] at h ⊢
    rw [if_neg (by unfold kn; cases q <;> decide)] at h
    exact .inl ⟨rfl, h⟩
  · rw [if_pos e] at h
    exact h

set_option maxHeartbeats 800000 in
set_option maxRecDepth 100000 in
theorem gen_make (q : Bool) (S cap : Nat) (w : World) (hS : S < w.heap.size) (hcap : 2 * kn q ≤ cap)
    (hk : ∀ k, k < kn q → w.cell? ⟨S, 2 * k, none⟩ = some (.string ((keysOf q).getD k ByteArray.empty)) ∧ w.cell? ⟨S, 2 * k + 1, none⟩ = some (.string ((valsOf q).getD k ByteArray.empty))) :
    Calls Try.prog 34 #[.slice (some ⟨S, 0, none⟩) (2 * kn q) cap] w fun e w' => ∃ G, e = .returned (.pointer (some ⟨G, 0, none⟩)) ∧ Ready q w.heap.size w'.heap.size w' G ∧ Below w.heap.size w w' := by
  obtain ⟨L, hL⟩ : ∃ L, L = 2 * kn q := ⟨_, rfl⟩
  rw [← hL] at hcap ⊢
  have hkn : kn q ≤ 5 := by unfold kn; split <;> omega
  obtain ⟨N, hN⟩ : ∃ N, N = kn q := ⟨_, rfl⟩
  rw [← hN] at hL hk hkn
  have HK := Aside0.mk hk
  have HN := Aside0.mk hN
  have HL := Aside0.mk hL
  clear hk hN hL
  go_enter Try.func34, Try.ntmps34
  go_wp2_with fail
  obtain ⟨g0, r0, b0, m0⟩ := zero86_row w
  have R0 := Aside0.mk r0
  have B0 := Aside0.mk b0
  have M0 := Aside0.mk m0
  clear r0 b0 m0
  have BW := Aside0.mk (below_alloc (Below.refl w.heap.size w) (.cells Try.zeroCells86 86))
  generalize w.alloc (.cells Try.zeroCells86 86) = w0 at *
  go_loopg [4] N (fun f i wr => ∃ (k i2 : Nat) (g : Nat → Value), k + f = N ∧ i = .int .i64 i2 ∧ Aside0 (i2 = 2 * k) ∧ Aside0 (wr.rowIs w.heap.size 86 262 g) ∧ Aside0 (BaseG g 0) ∧ Aside0 (MarkG g (mk01 (marks q k))) ∧ Aside0 (Below w.heap.size w wr))
  case atStart => exact ⟨0, 0, g0, by omega, rfl, ⟨rfl⟩, R0, B0, M0, BW⟩
  case round =>
    clear R0 B0 M0 BW
    obtain ⟨k, i2, g, hkf, rfl, HI, HR, HBg, HM, HB⟩ := hrel
    have hi2 := HI.out
    have hLe := HL.out
    by_cases hlt : k < N
    · have hil : (i2 : Int) < L := by omega
      have hil2 : i2 < L := by omega
      have hic : i2 < cap := by omega
      have hi0 : (i2 : Int) + 2 ≤ 1000 := by omega
      obtain ⟨key, hkey⟩ : ∃ s, s = (keysOf q).getD k ByteArray.empty := ⟨_, rfl⟩
      have hks : key.size ≤ 2 := by rw [hkey]; exact key_size q k
      have hcell : wr.cell? ⟨S, i2, none⟩ = some (.string key) := by
        rw [HB.out.cell (by exact hS), hi2, hkey]
        exact (HK.out k hlt).1
      have HKY := Aside0.mk hkey
      clear hkey hi2 hLe
      go_wp2_with fail
      go_loopg [6] key.size (fun f2 j wr2 => ∃ (jn : Nat) (g2 : Nat → Value), j = .int .i64 jn ∧ jn + f2 = key.size ∧ Aside0 (wr2.rowIs w.heap.size 86 262 g2) ∧ Aside0 (BaseG g2 0) ∧ Aside0 (MarkG g2 (mk01 (marks q k ++ (key.data.toList.map UInt8.toNat).take jn))) ∧ Aside0 (Below w.heap.size w wr2))
      case atStart => exact ⟨0, g, rfl, by omega, HR, HBg, by simpa using HM, HB⟩
      case round =>
        clear HR HBg HM HB hcell
        obtain ⟨jn, g2, rfl, hjf, HR, HBg, HM, HB⟩ := hrel
        by_cases hj : jn < key.size
        · have hj1 : (jn : Int) < key.size := by omega
          have hc1 : ((key[jn]'hj).toNat : Int) < 256 := by have := (key[jn]'hj).toNat_lt; omega
          have hc2 : (key[jn]'hj).toNat < 256 := (key[jn]'hj).toNat_lt
          have hc0 : (0 : Int) ≤ (key[jn]'hj).toNat := by omega
          have hx : wr.cell? ⟨w.heap.size, 6 + (key[jn]'hj).toNat, none⟩ = some (g2 (6 + (key[jn]'hj).toNat)) := HR.out.cell (by omega)
          have hz : wr.frozen? ⟨w.heap.size, 6 + (key[jn]'hj).toNat, none⟩ = false := HR.out.frozen _
          have hx' := HM.out _ hc2
          rw [hx'] at hx
          clear hx'
          have HR2 : Aside0 ((wr.setCell ⟨w.heap.size, 6 + (key[jn]'hj).toNat, none⟩ (.int .u8 1)).drew.rowIs w.heap.size 86 262 (fun j => if j = 6 + (key[jn]'hj).toNat then .int .u8 1 else g2 j)) := ⟨HR.out.set _ _⟩
          have HBg2 := Aside0.mk (base_set (v := .int .u8 1) (j0 := 6 + (key[jn]'hj).toNat) HBg.out (by omega))
          have hM2 := mark_set (cb := (key[jn]'hj).toNat) HM.out
          rw [List.append_assoc, ← take_bytes key jn hj] at hM2
          have HM2 := Aside0.mk hM2
          have HB2 : Aside0 (Below w.heap.size w (wr.setCell ⟨w.heap.size, 6 + (key[jn]'hj).toNat, none⟩ (.int .u8 1)).drew) := ⟨(HB.out.setCell (p := ⟨w.heap.size, 6 + (key[jn]'hj).toNat, none⟩) (Nat.le_refl _) _).drew⟩
          clear hM2 HR HBg HM HB
          go_wp2_with fail
          go_region_with (fail)
          go_wp2
          go_roundg (gk - 1)
          case measure => omega
          case rel => exact ⟨jn + 1, _, by go_num, by omega, HR2, HBg2, HM2, HB2⟩
        · have he : jn = key.size := by omega
          have hj1 : ¬ (jn : Int) < key.size := by omega
          have hM2 := HM.out
          rw [he, List.take_of_length_le (by rw [List.length_map, ← size_list]; exact Nat.le_refl _), HKY.out, ← marks_succ q k (by rw [← HN.out]; exact hlt)] at hM2
          have HM2 := Aside0.mk hM2
          have HI2 : Aside0 (i2 + 2 = 2 * (k + 1)) := ⟨by rw [HI.out]; omega⟩
          clear hM2 HM he
          go_wp2
          go_roundg (N - (k + 1))
          case measure => omega
          case rel => exact ⟨k + 1, i2 + 2, _, by omega, by go_num, HI2, HR, HBg, HM2, HB⟩
    · have hkN : k = N := by omega
      have hil : ¬ (i2 : Int) < L := by omega
      have hM2 := HM.out
      rw [hkN] at hM2
      have HCS : Aside0 (∃ cs : List Value, cs.length = 256 ∧ wr.rangeAt w.heap.size 6 cs ∧ ∀ c, c < 256 → cs[c]? = some (.int .u8 (mk01 (marks q N) c))) := ⟨by
        refine ⟨(List.range 256).map fun c => .int .u8 (mk01 (marks q N) c), by simp, ?_, fun c hc => by simp [hc]⟩
        intro j v hv
        have hj : j < 256 := by
          rcases Nat.lt_or_ge j 256 with h | h
          · exact h
          · rw [List.getElem?_eq_none (by simpa using h)] at hv; cases hv
        rw [List.getElem?_map, List.getElem?_range hj] at hv
        have hr := HR.out.cell (i := 6 + j) (by omega)
        rw [hr, hM2 j hj]
        exact hv⟩
      obtain ⟨cs, hcl, hcr, hcs⟩ := HCS.out
      have HCR := Aside0.mk hcr
      have HCC := Aside0.mk hcs
      have HCL : (Try.prog.info? 67).map (·.size) = some cs.length := by rw [hcl]; kernel_rfl
      have HM2 := Aside0.mk hM2
      clear hcr hcs hM2 HM HCS hi2 hLe hlt hkf
      go_wp2_with (refine wpList_load_mid rfl 67 _ rfl w.heap.size 6 rfl cs (.array 256 5) HCR.out Try.underlying67 rfl HCL ?_)
      obtain ⟨M, hMe⟩ : ∃ M, M = marks q N := ⟨_, rfl⟩
      rw [← hMe] at HM2 HCC
      have HME := Aside0.mk hMe
      have HKK := HK
      clear hMe HK
      go_loopg [41] 256 (fun f v wr => ∃ (k : Nat) (g : Nat → Value), k + f = 256 ∧ v = .int .i64 k ∧ Aside0 (wr.rowIs w.heap.size 86 262 g) ∧ Aside0 (BaseG g (cntB (mk01 M) k)) ∧ Aside0 (MarkG g (mk01 M)) ∧ Aside0 (Below w.heap.size w wr))
      case atStart => exact ⟨0, g, rfl, rfl, HR, HBg, HM2, HB⟩
      case round =>
        clear HR HBg HM2 HB HCR
        obtain ⟨k, g, hkf, rfl, HR, HBg, HM, HB⟩ := hrel
        by_cases hlt : k < 256
        · obtain ⟨h1, h2, h3, h4⟩ := HBg.out
          have c5 := HR.out.cell (i := 5) (by omega)
          rw [h3] at c5
          have z5 := HR.out.frozen 5
          obtain ⟨x, hx⟩ : ∃ x, x = mk01 M k := ⟨_, rfl⟩
          obtain ⟨y, hy⟩ : ∃ y, y = cntB (mk01 M) k := ⟨_, rfl⟩
          have hx1 := mk01_le M k
          have hy1 := cntB_le M k
          have hck := HCC.out k hlt
          have hs : cntB (mk01 M) (k + 1) = y + x := by rw [cntB, hx, hy]
          rw [← hx] at hck hx1
          rw [← hy] at c5 hy1
          have hidx : ∀ W, (Instr.index 67 (.agg cs.toArray) (.int .i64 k)).run Try.prog W = .ok (.int .u8 x) W := fun W => run_index_byte cs k x W hlt hck
          have hk1 : (k : Int) < 256 := by omega
          have hB2 := base_five (n' := y + x) HBg.out
          rw [← hs] at hB2
          have HB2 := Aside0.mk hB2
          have HM2 := Aside0.mk (mark_five (v := .int .i64 (cntB (mk01 M) (k + 1))) HM.out)
          have HR2 : Aside0 ((wr.setCell ⟨w.heap.size, 5, none⟩ (.int .i64 (cntB (mk01 M) (k + 1)))).rowIs w.heap.size 86 262 (fun j => if j = 5 then .int .i64 (cntB (mk01 M) (k + 1)) else g j)) := ⟨HR.out.set _ _⟩
          have HBe2 : Aside0 (Below w.heap.size w (wr.setCell ⟨w.heap.size, 5, none⟩ (.int .i64 (cntB (mk01 M) (k + 1))))) := ⟨HB.out.setCell (p := ⟨w.heap.size, 5, none⟩) (Nat.le_refl _) _⟩
          have hsum : (y : Int) + x = ((cntB (mk01 M) (k + 1) : Nat) : Int) := by rw [hs]; omega
          have hsm : ((cntB (mk01 M) (k + 1) : Nat) : Int) ≤ 257 := by rw [hs]; omega
          clear hs hB2 h1 h2 h3 h4 hx hy HBg HM HB
          go_wp2
          go_roundg (gk - 1)
          case measure => omega
          case rel => exact ⟨k + 1, _, by omega, by go_num, HR2, HB2, HM2, HBe2⟩
        · have hk256 : k = 256 := by omega
          have hk1 : ¬ (k : Int) < 256 := by omega
          have hTS : cntB (mk01 M) 256 = nOf q := by rw [HME.out, HN.out]; exact cnt_all q
          have hB2 := HBg.out
          rw [hk256, hTS] at hB2
          obtain ⟨n, hn⟩ : ∃ n, n = nOf q := ⟨_, rfl⟩
          have hn6 : n ≤ 6 := by rw [hn]; unfold nOf; split <;> omega
          rw [← hn] at hB2 hTS
          have HB2 := Aside0.mk hB2
          have HTS := Aside0.mk hTS
          have HNQ := Aside0.mk hn
          have HCR2 := Aside0.mk (range_of HR.out HM.out hcl HCC.out)
          have HM3 : Aside0 (MarkG g (mapK M 0)) := ⟨fun c hc => by rw [HM.out c hc]; unfold mapK; rw [if_neg (by omega)]⟩
          clear hTS hn hB2 HBg HM hk256 hkf
          go_wp2_with (refine wpList_load_mid rfl 67 _ rfl w.heap.size 6 rfl cs (.array 256 5) HCR2.out Try.underlying67 rfl HCL ?_)
          go_loopg [9, 58] 256 (fun f v9 v58 wr => ∃ (k : Nat) (g : Nat → Value), k + f = 256 ∧ v58 = .int .i64 k ∧ v9 = .int .u8 (cntB (mk01 M) k : Nat) ∧ Aside0 (wr.rowIs w.heap.size 86 262 g) ∧ Aside0 (BaseG g n) ∧ Aside0 (MarkG g (mapK M k)) ∧ Aside0 (Below w.heap.size w wr))
          case atStart => exact ⟨0, g, rfl, rfl, rfl, HR, HB2, HM3, HB⟩
          case round =>
            clear HR HB2 HM3 HB HCR2
            obtain ⟨k, g, hkf, rfl, rfl, HR, HBg, HM, HB⟩ := hrel
            by_cases hlt : k < 256
            · obtain ⟨h1, h2, h3, h4⟩ := HBg.out
              have c5 := HR.out.cell (i := 5) (by omega)
              rw [h3] at c5
              have cx := HR.out.cell (i := 6 + k) (by omega)
              rw [HM.out k hlt] at cx
              have zx := HR.out.frozen (6 + k)
              obtain ⟨x, hx⟩ : ∃ x, x = mk01 M k := ⟨_, rfl⟩
              have hx1 := mk01_le M k
              have hmo := cntB_mono (mk01 M) (k + 1) 256 (by omega)
              rw [HTS.out, cntB, ← hx] at hmo
              have hs : cntB (mk01 M) (k + 1) = cntB (mk01 M) k + x := by rw [cntB, hx]
              have hmk : mapK M (k + 1) k = if x = 0 then n else cntB (mk01 M) k := by unfold mapK; rw [if_pos (by omega), ← hx, HTS.out]
              have HHS := Aside0.mk hs
              have HMK := Aside0.mk hmk
              clear hs hmk
              obtain ⟨y, hy⟩ : ∃ y, y = cntB (mk01 M) k := ⟨_, rfl⟩
              have hck := HCC.out k hlt
              rw [← hx] at hck hx1
              have hidx : ∀ W, (Instr.index 67 (.agg cs.toArray) (.int .i64 k)).run Try.prog W = .ok (.int .u8 x) W := fun W => run_index_byte cs k x W hlt hck
              have hk1 : (k : Int) < 256 := by omega
              have hkk : k < 256 := hlt
              rw [← hy] at hmo ⊢
              have HY := Aside0.mk hy
              clear hck h1 h2 h3 h4 hx hy
              by_cases hx0 : x = 0
              · have hmv : n = mapK M (k + 1) k := by rw [HMK.out, if_pos hx0]
                have HM2 := Aside0.mk (mark_map HM.out hmv)
                have HR2 : Aside0 ((wr.setCell ⟨w.heap.size, 6 + k, none⟩ (.int .u8 n)).drew.rowIs w.heap.size 86 262 (fun j => if j = 6 + k then .int .u8 n else g j)) := ⟨HR.out.set _ _⟩
                have HB2 : Aside0 (Below w.heap.size w (wr.setCell ⟨w.heap.size, 6 + k, none⟩ (.int .u8 n)).drew) := ⟨(HB.out.setCell (p := ⟨w.heap.size, 6 + k, none⟩) (Nat.le_refl _) _).drew⟩
                have HBg2 := Aside0.mk (base_set (v := .int .u8 n) (j0 := 6 + k) HBg.out (by omega))
                have hxx : (x : Int) = 0 := by omega
                have HY2 : Aside0 (cntB (mk01 M) (k + 1) = y) := ⟨by rw [HHS.out, hx0, HY.out]; rfl⟩
                clear hmv HM HBg HR HB hx0
                go_wp2_with fail
                go_region_with (fail)
                go_wp2
                go_roundg (256 - (k + 1))
                case measure => omega
                case rel => exact ⟨k + 1, _, by omega, by go_num, by rw [HY2.out], HR2, HBg2, HM2, HB2⟩
              · have hx2 : x = 1 := by omega
                have hmv : y = mapK M (k + 1) k := by rw [HMK.out, if_neg hx0, HY.out]
                have HM2 := Aside0.mk (mark_map HM.out hmv)
                have HR2 : Aside0 ((wr.setCell ⟨w.heap.size, 6 + k, none⟩ (.int .u8 y)).rowIs w.heap.size 86 262 (fun j => if j = 6 + k then .int .u8 y else g j)) := ⟨HR.out.set _ _⟩
                have HB2 : Aside0 (Below w.heap.size w (wr.setCell ⟨w.heap.size, 6 + k, none⟩ (.int .u8 y))) := ⟨HB.out.setCell (p := ⟨w.heap.size, 6 + k, none⟩) (Nat.le_refl _) _⟩
                have HBg2 := Aside0.mk (base_set (v := .int .u8 y) (j0 := 6 + k) HBg.out (by omega))
                have hxx : ¬ (x : Int) = 0 := by omega
                have HY2 : Aside0 (cntB (mk01 M) (k + 1) = y + 1) := ⟨by rw [HHS.out, hx2, HY.out]⟩
                clear hmv HM HBg HR HB hx0
                go_wp2
                go_roundg (256 - (k + 1))
                case measure => omega
                case rel => exact ⟨k + 1, _, by omega, by go_num, by rw [HY2.out]; go_num, HR2, HBg2, HM2, HB2⟩
            · have hk256 : k = 256 := by omega
              have hk1 : ¬ (k : Int) < 256 := by omega
              obtain ⟨h1, h2, h3, v4, h4⟩ := HBg.out
              have c5 := HR.out.cell (i := 5) (by omega)
              rw [h3] at c5
              have c4 : ∀ o, (wr.alloc o).cell? ⟨w.heap.size, 4, none⟩ = some (.slice v4 0 0) := fun o => by
                rw [World.cell?_alloc_past _ _ _ HR.out.lt, HR.out.cell (i := 4) (by omega), h4]
              have z4 : ∀ o, (wr.alloc o).frozen? ⟨w.heap.size, 4, none⟩ = false := fun o => by
                rw [World.frozen?_alloc_past _ _ _ HR.out.lt, HR.out.frozen]
              have hmk : ∀ W, (Instr.makeSlice 82 (.int .i64 n) (.int .i64 n)).run Try.prog W = .ok (.slice (some ⟨W.heap.size, 0, none⟩) n n) (W.alloc (.cells (madeCells #[.pointer none] n) 81)) := fun W =>
                run_make_row' 82 81 (.pointer none) 8 Try.underlying82 ptr_info rfl .i64 .i64 n (by omega) (by omega) W
              have hM := HM.out
              rw [hk256] at hM
              have hW : ∃ T w2 g2 t2, w2 = ((wr.alloc (.cells (madeCells #[.pointer none] n) 81)).setCell ⟨w.heap.size, 4, none⟩ (.slice (some ⟨T, 0, none⟩) n n)) ∧ T = wr.heap.size ∧ w2.rowIs w.heap.size 86 262 g2 ∧ w2.rowIs T 81 (nOf q) t2 ∧ GOK q g2 T ∧ TabOK q 0 w.heap.size w2 t2 ∧ w.heap.size ≤ T ∧ w.heap.size ≠ T ∧ Below w.heap.size w w2 := by
                have hlt2 := HR.out.lt
                refine ⟨wr.heap.size, _, _, _, rfl, rfl, (HR.out.alloc _).set 4 _, World.rowIs.setOther (f := fun _ => .pointer none) ?_ (show wr.heap.size ≠ w.heap.size by omega) _, ?_, ?_, by omega, by omega, ?_⟩
                · rw [← HNQ.out]; exact World.rowIs_made wr (.pointer none) n 81
                · refine ⟨h1, h2, by rw [← HNQ.out]; rfl, by rw [← HNQ.out]; exact h3, fun c => ?_⟩
                  have := hM c.toNat c.toNat_lt
                  show (if 6 + c.toNat = 4 then _ else g (6 + c.toNat)) = _
                  rw [if_neg (by omega), this, HME.out, HN.out, map_eq]
                · intro c hc
                  rw [if_neg (by omega)]
                · exact (HB.out.alloc HB.out.size _).setCell (p := ⟨w.heap.size, 4, none⟩) (Nat.le_refl _) _
              obtain ⟨T, w2, g2, t2, hw2, hT, r1, r2, r3, r4, r5, r6, r7⟩ := hW
              rw [hT] at hw2
              have R1 := Aside0.mk r1
              have R2 := Aside0.mk r2
              have R3 := Aside0.mk r3
              have R4 := Aside0.mk r4
              have R7 := Aside0.mk r7
              have HW2 := Aside0.mk hw2
              clear r1 r2 r3 r4 r7 hM h1 h2 h3 h4 HM HBg HR HB hk256 hkf hw2
              go_wp2_with fail
              rw [← HW2.out]
              go_loopg [12] N (fun f v wr => ∃ (k i2 : Nat) (t : Nat → Value), k + f = N ∧ v = .int .i64 i2 ∧ Aside0 (i2 = 2 * k) ∧ Aside0 (wr.rowIs w.heap.size 86 262 g2) ∧ Aside0 (wr.rowIs T 81 (nOf q) t) ∧ Aside0 (TabOK q k w.heap.size wr t) ∧ Aside0 (Below w.heap.size w wr))
              case atStart => exact ⟨0, 0, t2, by omega, rfl, ⟨rfl⟩, R1, R2, R4, R7⟩
              case round =>
                clear R1 R2 R4 R7 HW2 hT c5 c4 z4
                obtain ⟨k, i2, t, hkf, rfl, HI, HR, HT, HTB, HB⟩ := hrel
                have hi2 := HI.out
                have hLe := HL.out
                by_cases hlt : k < N
                · have hil : (i2 : Int) < L := by omega
                  have hil2 : i2 < L := by omega
                  have hil3 : i2 + 1 < L := by omega
                  have hil4 : (i2 : Int) + 1 < L := by omega
                  have hic : i2 < cap := by omega
                  have hi0 : (i2 : Int) + 2 ≤ 1000 := by omega
                  have hLc : (L : Int) ≤ 1000 := by omega
                  have hp : (0 : Int) < (L : Int) - i2 := by omega
                  obtain ⟨key, hkey⟩ : ∃ s, s = (keysOf q).getD k ByteArray.empty := ⟨_, rfl⟩
                  obtain ⟨val, hval⟩ : ∃ s, s = (valsOf q).getD k ByteArray.empty := ⟨_, rfl⟩
                  have hcell : wr.cell? ⟨S, i2, none⟩ = some (.string key) := by
                    rw [HB.out.cell (by exact hS), hi2, hkey]
                    exact (HKK.out k hlt).1
                  have hcell2 : wr.cell? ⟨S, i2 + 1, none⟩ = some (.string val) := by
                    rw [HB.out.cell (by exact hS), hi2, hval]
                    exact (HKK.out k hlt).2
                  have hadd : Aside0 (Calls Try.prog 40 #[.pointer (some ⟨w.heap.size, 0, none⟩), .string key, .string val, .int .i64 ((L : Int) - i2), .pointer (some ⟨w.heap.size, 0, none⟩)] wr.drew fun e w' => e = .returned (.tuple #[]) ∧ ∃ t', w'.rowIs T 81 (nOf q) t' ∧ TabOK q (k + 1) w.heap.size w' t' ∧ Keep T wr.drew w') := ⟨by
                    obtain ⟨q1, q2, q4, q5, q6⟩ := R3.out
                    have hkn2 : k < kn q := by rw [← HN.out]; exact hlt
                    have hCw : w.heap.size ≤ wr.drew.heap.size := HB.out.size
                    rcases key_cases q k hkn2 with ⟨c, e1, e2, e3, e4, e5⟩ | ⟨e1, e2, e4, e5⟩
                    · rw [hkey, hval, e1, e2]
                      have htn := HTB.out c e5
                      rw [if_neg (by omega)] at htn
                      refine (add_key_leaf q w.heap.size w.heap.size T c _ wr.drew g2 t hp hCw HR.out HT.out r6 e3 e5 q2 q4 (q6 c) htn).mono ?_
                      rintro e w' ⟨he, hl⟩
                      exact ⟨he, tab_step HTB.out.drew HT.out e4 (by omega) e5 hl⟩
                    · rw [hkey, hval, e1, e2]
                      have htn := HTB.out 194 e5
                      rw [if_neg (by omega)] at htn
                      refine (add_key_stem q w.heap.size w.heap.size T _ wr.drew g2 t hp hCw HR.out HT.out r6 e5 q2 q4 (q6 194) htn).mono ?_
                      rintro e w' ⟨he, hl⟩
                      exact ⟨he, tab_step HTB.out.drew HT.out e4 (by omega) e5 hl⟩⟩
                  have hw1 : IntKind.i64.wrap ((i2 : Int) + 1) = (i2 : Int) + 1 := by rw [IntKind.wrap_i64]; omega
                  have hw2 : IntKind.i64.wrap ((L : Int) - i2) = (L : Int) - i2 := by rw [IntKind.wrap_i64]; omega
                  have hn1 : (0 : Int) ≤ (i2 : Int) + 1 := by omega
                  have hn2 : ((i2 : Int) + 1).toNat = i2 + 1 := by omega
                  clear hkey hval hi2 hLe
                  go_wp2_with fail
                  go_region_with (go_at_call 40; refine hadd.out.mono ?_; rintro e w3 ⟨rfl, t3, s1, s2, s3⟩)
                  all_goals (
                    have HR3 : Aside0 (w3.rowIs w.heap.size 86 262 g2) := ⟨World.rowIs.of_block HR.out (s3.2.2.2.2 _ HR.out.lt r6)⟩
                    have HB3 : Aside0 (Below w.heap.size w w3) := ⟨HB.out.trans (keep_below s3 r5 HB.out.size)⟩
                    have HT3 := Aside0.mk s1
                    have HTB3 := Aside0.mk s2
                    have HI3 : Aside0 (i2 + 2 = 2 * (k + 1)) := ⟨by rw [HI.out]; omega⟩
                    clear s1 s2 s3
                    go_wp2
                    go_roundg (N - (k + 1))
                    case measure => omega
                    case rel => exact ⟨k + 1, i2 + 2, t3, by omega, by go_num, HI3, HR3, HT3, HTB3, HB3⟩)
                · have hil : ¬ (i2 : Int) < L := by omega
                  have hTB := HTB.out
                  rw [show k = kn q by rw [← HN.out]; omega] at hTB
                  have hrd := Aside0.mk (ready_of HR.out HT.out R3.out hTB (Nat.le_refl _) r5)
                  clear hTB hi2 hLe
                  go_wp2
                  go_ret
                  exact ⟨_, rfl, hrd.out, HB.out⟩
end Go.Proofs.Ytebcdfdkgjcmmaa.Hand
