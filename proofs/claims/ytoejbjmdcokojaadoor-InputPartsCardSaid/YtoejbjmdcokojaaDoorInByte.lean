/- By hand: a byte is read. -/
import Derived.Test.YtoejbjmdcokojaaDoorInDec
import Derived.Deep.AppendLies
namespace Go.Proofs.YtoejbjmdcokojaaDoor.Hand
set_option linter.unusedVariables false
set_option linter.unusedSimpArgs false
open Go Go.RowKit Go.Proofs.YtoejbjmdcokojaaDoorW.PrintWords

/-- What the package's variables hold. -/
def LaidW (w : World) : Prop := w.cell? ⟨0, 0, none⟩ = some (.int .u8 128) ∧ w.cell? ⟨0, 1, none⟩ = some (.int .u8 191) ∧ ∃ m, w.cell? ⟨1, 0, none⟩ = some (.int .i64 m)
theorem LaidW.size {w : World} (h : LaidW w) : 2 ≤ w.heap.size := by
  obtain ⟨_, _, m, h⟩ := h
  have := World.block_lt_of_cell? (w := w) (a := ⟨1, 0, none⟩) h
  exact this
theorem LaidW.keeps {B : Nat} {Q : Nat → Prop} {w w' : World} (h : LaidW w) (hb : Keeps B Q w w') (hB : 2 ≤ B) : LaidW w' := by
  obtain ⟨h1, h2, m, h3⟩ := h
  exact ⟨(hb.cell (show 0 < B by omega)).trans h1, (hb.cell (show 0 < B by omega)).trans h2, m, (hb.cell (show 1 < B by omega)).trans h3⟩
theorem LaidW.below {B : Nat} {w w' : World} (h : LaidW w) (hb : Below B w w') (hB : 2 ≤ B) : LaidW w' := by
  obtain ⟨h1, h2, m, h3⟩ := h
  exact ⟨(hb.cell (show 0 < B by omega)).trans h1, (hb.cell (show 0 < B by omega)).trans h2, m, (hb.cell (show 1 < B by omega)).trans h3⟩

def asksI (c : Int) : Int × Int × Int :=
  if c < 128 then (0, 128, 191) else if 194 ≤ c ∧ c ≤ 223 then (1, 128, 191) else if c = 224 then (2, 160, 191) else if c = 237 then (2, 128, 159) else if 225 ≤ c ∧ c ≤ 239 then (2, 128, 191)
  else if c = 240 then (3, 144, 191) else if 241 ≤ c ∧ c ≤ 243 then (3, 128, 191) else if c = 244 then (3, 128, 143) else (-1, 128, 191)

theorem results_asks {tmps : Array Value} {n lo hi : Int} {g : Nat} {w : World} (h2 : tmps[2]?.getD undef = .int .i64 n) (h3 : tmps[3]?.getD undef = .pointer (some ⟨g, 0, none⟩)) (c0 : w.cell? ⟨g, 0, none⟩ = some (.int .u8 lo)) (c1 : w.cell? ⟨g, 1, none⟩ = some (.int .u8 hi)) :
    (results Tryd.f30 tmps).run Tryd.prog w = .ok (.tuple #[.int .i64 n, .agg #[.int .u8 lo, .int .u8 hi]]) w := by
  have hv := run_loadVar_mid (P := Tryd.prog) w g 0 40 [.int .u8 lo, .int .u8 hi] _ (fun j v hj => by
    match j, hj with
    | 0, hj => simp at hj; rw [← hj]; exact c0
    | 1, hj => simp at hj; rw [← hj]; exact c1) Tryd.underlying40 rfl (by kernel_rfl)
  simp [results, Tryd.results30, h2, h3, asAddr, hv]

set_option maxHeartbeats 800000 in
set_option maxRecDepth 100000 in
theorem asks_calls (c : Int) (h0 : 0 ≤ c) (h1 : c ≤ 255) (w : World) (hL : LaidW w) :
    Calls Tryd.prog 30 #[.int .u8 c] w fun e w' => e = .returned (.tuple #[.int .i64 (asksI c).1, .agg #[.int .u8 (asksI c).2.1, .int .u8 (asksI c).2.2]]) ∧ Below w.heap.size w w' := by
  obtain ⟨l1, l2, _⟩ := hL
  have hsz : 0 < w.heap.size := World.block_lt_of_cell? (w := w) (a := ⟨0, 0, none⟩) l1
  have k1 : ∀ o, (w.alloc o).cell? ⟨0, 0, none⟩ = some (.int .u8 128) := fun o => (World.cell?_alloc_past _ _ _ hsz).trans l1
  have k2 : ∀ o, (w.alloc o).cell? ⟨0, 1, none⟩ = some (.int .u8 191) := fun o => (World.cell?_alloc_past _ _ _ hsz).trans l2
  have key : ∀ n lo hi, asksI c = (n, lo, hi) → (Ending.returned (.tuple #[.int .i64 n, .agg #[.int .u8 lo, .int .u8 hi]]) = Ending.returned (.tuple #[.int .i64 (asksI c).1, .agg #[.int .u8 (asksI c).2.1, .int .u8 (asksI c).2.2]])) := by
    intro n lo hi h; rw [h]
  have HK := Aside0.mk key
  clear key
  go_enter Tryd.func30, Tryd.ntmps30
  go_wp2
  all_goals (try go_region_with (fail))
  all_goals (try go_wp2)
  all_goals (refine bodyPost_ret_by (results_asks rfl rfl (by simp; rfl) (by simp; rfl)) rfl ⟨HK.out _ _ _ ?_, by first | exact below_alloc (Below.refl _ _) _ | exact (below_alloc (Below.refl _ _) _).drew⟩)
  all_goals (unfold asksI; repeat' split)
  all_goals first | rfl | (exfalso; omega) | (exfalso; simp_all; done) | (exfalso; simp_all; omega)

structure DS where
  out : List UInt8
  op : List UInt8
  k : Nat
  lo : Int
  hi : Int
def fffd : ByteArray := ⟨#[239, 191, 189]⟩
def beginS (s : DS) (c : UInt8) : DS :=
  if (asksI c.toNat).1 < 0 then { s with out := s.out ++ fffd.data.toList } else if (asksI c.toNat).1 = 0 then { s with out := s.out ++ [c] }
  else { s with op := [c], k := (asksI c.toNat).1.toNat, lo := (asksI c.toNat).2.1, hi := (asksI c.toNat).2.2 }
def breaksS (s : DS) : DS := { s with out := if 0 < s.k then s.out ++ fffd.data.toList else s.out, op := [], k := 0 }
def moreS (s : DS) (c : UInt8) : DS :=
  if s.k = 1 then { out := s.out ++ (s.op ++ [c]), op := [], k := 0, lo := 128, hi := 191 } else { s with op := s.op ++ [c], k := s.k - 1, lo := 128, hi := 191 }
def byteS (s : DS) (c : UInt8) : DS :=
  if s.k = 0 then beginS s c else if s.lo ≤ c.toNat ∧ (c.toNat : Int) ≤ s.hi then moreS s c else beginS (breaksS s) c

def Dec (B : Nat) (Q : Nat → Prop) (b : Nat) (s : DS) (w : World) : Prop :=
  ∃ p v o, DecV B Q b p v o s.out s.k s.lo s.hi w ∧ ((s.op = [] ∧ s.k = 0 ∧ o = .slice none 0 0) ∨ (s.op ≠ [] ∧ 0 < s.k ∧ ∃ g cap, o = .slice (some ⟨g, 0, none⟩) s.op.length cap ∧ w.ownsRow B 5 1 o s.op.length (bytesV s.op) ∧ v.ownBlock ≠ some g ∧ ¬ Q g))

theorem DecV.drew {B b : Nat} {Q : Nat → Prop} {p v o : Value} {bs : List UInt8} {k lo hi : Int} {w : World} (h : DecV B Q b p v o bs k lo hi w) : DecV B Q b p v o bs k lo hi w.drew := ⟨h.base, h.blk, h.ptr, h.ownV, h.qn, h.qv⟩
theorem Dec.drew {B b : Nat} {Q : Nat → Prop} {s : DS} {w : World} (h : Dec B Q b s w) : Dec B Q b s w.drew := by
  obtain ⟨p, v, o, h, ho⟩ := h
  exact ⟨p, v, o, h.drew, ho⟩

set_option maxHeartbeats 800000 in
set_option maxRecDepth 100000 in
theorem begin_calls {B b : Nat} {Q : Nat → Prop} {s : DS} {w : World} (c : UInt8) (h : Dec B Q b s w) (hop : s.op = []) (hL : LaidW w) (hB2 : 2 ≤ B) (hBw : B ≤ w.heap.size) (hlen : s.out.length + 3 ≤ 140737488355328) :
    Calls Tryd.prog 24 #[.pointer (some ⟨b, 0, none⟩), .int .u8 c.toNat] w fun e w' => e = .returned (.tuple #[]) ∧ Dec B Q b (beginS s c) w' ∧ Keeps B Q w w' := by
  obtain ⟨p, v, o, hd, ho⟩ := h
  have ho2 : s.k = 0 ∧ o = .slice none 0 0 := by
    rcases ho with ⟨_, h1, h2⟩ | ⟨h1, _⟩
    · exact ⟨h1, h2⟩
    · exact absurd hop h1
  obtain ⟨hk, rfl⟩ := ho2
  have hc := c.toNat_lt
  have ha := asks_calls c.toNat (by omega) (by omega) w hL
  obtain ⟨n, lo, hi, hasks⟩ : ∃ n lo hi, asksI c.toNat = (n, lo, hi) := ⟨_, _, _, rfl⟩
  rw [hasks] at ha
  have HA := Aside0.mk ha
  have HS := Aside0.mk hasks
  clear ha hasks ho
  by_cases hn : n < 0
  · have HD := Aside0.mk hd
    clear hd
    go_enter Tryd.func24, Tryd.ntmps24
    go_wp2_with fail
    refine HA.out.mono ?_
    rintro e w1 ⟨rfl, hw1⟩
    have HD1 := Aside0.mk ((HD.out.below hw1).below (below_alloc (Below.refl w1.heap.size w1) (.cells #[.int .u8 lo, .int .u8 hi] 40)))
    have HB1 : Aside0 (Keeps B Q w (w1.alloc (.cells #[.int .u8 lo, .int .u8 hi] 40))) := ⟨(Keeps.new hw1 hBw).alloc (Nat.le_trans hBw hw1.size) _⟩
    have hB1 := Nat.le_trans hBw HB1.out.size
    go_wp2_with fail
    refine (dec_string fffd HD1.out (by exact hlen) hB1).mono ?_
    rintro e w2 ⟨rfl, hT⟩
    go_wp2
    go_end0
    obtain ⟨⟨v', hv⟩, hb'⟩ := hT
    have hS : beginS s c = { s with out := s.out ++ fffd.data.toList } := by unfold beginS; rw [HS.out, if_pos hn]
    rw [hS]
    exact ⟨rfl, ⟨_, v', _, hv, .inl ⟨hop, hk, rfl⟩⟩, HB1.out.trans hb'⟩
  · by_cases hn0 : n = 0
    · have HD := Aside0.mk hd
      clear hd
      go_enter Tryd.func24, Tryd.ntmps24
      go_wp2_with fail
      refine HA.out.mono ?_
      rintro e w1 ⟨rfl, hw1⟩
      have HD1 := Aside0.mk ((HD.out.below hw1).below (below_alloc (Below.refl w1.heap.size w1) (.cells #[.int .u8 lo, .int .u8 hi] 40)))
      have HB1 : Aside0 (Keeps B Q w (w1.alloc (.cells #[.int .u8 lo, .int .u8 hi] 40))) := ⟨(Keeps.new hw1 hBw).alloc (Nat.le_trans hBw hw1.size) _⟩
      have hB1 := Nat.le_trans hBw HB1.out.size
      go_wp2_with fail
      refine (dec_byte c HD1.out (by omega) hB1).mono ?_
      rintro e w2 ⟨rfl, hT⟩
      go_wp2
      go_end0
      obtain ⟨⟨v', hv⟩, hb'⟩ := hT
      have hS : beginS s c = { s with out := s.out ++ [c] } := by unfold beginS; rw [HS.out, if_neg (by simpa using hn), if_pos hn0]
      rw [hS]
      exact ⟨rfl, ⟨_, v', _, hv, .inl ⟨hop, hk, rfl⟩⟩, HB1.out.trans hb'⟩
    · have HD := Aside0.mk hd
      clear hd
      have hS : beginS s c = { s with op := [c], k := n.toNat, lo := lo, hi := hi } := by unfold beginS; rw [HS.out, if_neg (by simpa using hn), if_neg hn0]
      rw [hS]
      go_enter Tryd.func24, Tryd.ntmps24
      go_wp2_with fail
      refine HA.out.mono ?_
      rintro e w1 ⟨rfl, hw1⟩
      have HD1 := Aside0.mk ((HD.out.below hw1).below (below_alloc (Below.refl w1.heap.size w1) (.cells #[.int .u8 lo, .int .u8 hi] 40)))
      have HB1 : Aside0 (Keeps B Q w (w1.alloc (.cells #[.int .u8 lo, .int .u8 hi] 40))) := ⟨(Keeps.new hw1 hBw).alloc (Nat.le_trans hBw hw1.size) _⟩
      have hB1 := Nat.le_trans hBw HB1.out.size
      have hn1 : ¬ (n == 0) = true := by simpa using hn0
      have hd1 := HD.out.below hw1
      have hb1 := hd1.lt
      have hb2 : b < w1.heap.size + 1 := by omega
      have hne1 : ¬ b = w1.heap.size := by omega
      have hne2 : ¬ b = w1.heap.size + 1 := by omega
      have d2 : w1.cell? ⟨b, 2, none⟩ = some (.slice none 0 0) := hd1.cell 2
      have d3 : w1.cell? ⟨b, 3, none⟩ = some (.int .i64 s.k) := hd1.cell 3
      have d4 : w1.cell? ⟨b, 4, none⟩ = some (.int .u8 s.lo) := hd1.cell 4
      have d5 : w1.cell? ⟨b, 5, none⟩ = some (.int .u8 s.hi) := hd1.cell 5
      have z2 := hd1.frozen 2
      have z3 := hd1.frozen 3
      have z4 := hd1.frozen 4
      have z5 := hd1.frozen 5
      have HW : Aside0 (Dec B Q b { s with op := [c], k := n.toNat, lo := lo, hi := hi } ((((((w1.setCell ⟨b, 2, none⟩ (.slice (some ⟨w1.heap.size + 1, 0, none⟩) 1 1)).setCell ⟨b, 3, none⟩ (.int .i64 n)).setCell ⟨b, 4, none⟩ (.int .u8 lo)).setCell ⟨b, 5, none⟩ (.int .u8 hi)).alloc (.cells #[.int .u8 lo, .int .u8 hi] 40)).alloc (.cells #[.int .u8 c.toNat] 5))) := ⟨by
        have hv := hd1.neV
        have x1 := hd1.store (p' := p) (v' := v) (o' := .slice (some ⟨w1.heap.size + 1, 0, none⟩) 1 1) (bs' := s.out) (k' := s.k) (lo' := s.lo) (hi' := s.hi) 2 (.slice (some ⟨w1.heap.size + 1, 0, none⟩) 1 1) rfl hd1.ptr hd1.own
        have x2 := x1.store (p' := p) (v' := v) (o' := .slice (some ⟨w1.heap.size + 1, 0, none⟩) 1 1) (bs' := s.out) (k' := n) (lo' := s.lo) (hi' := s.hi) 3 (.int .i64 n) rfl x1.ptr x1.own
        have x3 := x2.store (p' := p) (v' := v) (o' := .slice (some ⟨w1.heap.size + 1, 0, none⟩) 1 1) (bs' := s.out) (k' := n) (lo' := lo) (hi' := s.hi) 4 (.int .u8 lo) rfl x2.ptr x2.own
        have x4 := x3.store (p' := p) (v' := v) (o' := .slice (some ⟨w1.heap.size + 1, 0, none⟩) 1 1) (bs' := s.out) (k' := n) (lo' := lo) (hi' := hi) 5 (.int .u8 hi) rfl x3.ptr x3.own
        have x5 := x4.below (below_alloc (Below.refl _ _) (.cells #[.int .u8 lo, .int .u8 hi] 40))
        have x6 := x5.below (below_alloc (Below.refl _ _) (.cells #[.int .u8 c.toNat] 5))
        have hl := World.ownsRow_lit (e := 5) (size := 1) (base := B) (((((w1.setCell ⟨b, 2, none⟩ (.slice (some ⟨w1.heap.size + 1, 0, none⟩) 1 1)).setCell ⟨b, 3, none⟩ (.int .i64 n)).setCell ⟨b, 4, none⟩ (.int .u8 lo)).setCell ⟨b, 5, none⟩ (.int .u8 hi)).alloc (.cells #[.int .u8 lo, .int .u8 hi] 40)) #[.int .u8 c.toNat] 1 (by simp; have := hw1.size; omega) (by unfold maxLen; omega) rfl
        have hs : (((((w1.setCell ⟨b, 2, none⟩ (.slice (some ⟨w1.heap.size + 1, 0, none⟩) 1 1)).setCell ⟨b, 3, none⟩ (.int .i64 n)).setCell ⟨b, 4, none⟩ (.int .u8 lo)).setCell ⟨b, 5, none⟩ (.int .u8 hi)).alloc (.cells #[.int .u8 lo, .int .u8 hi] 40)).heap.size = w1.heap.size + 1 := by simp
        rw [hs] at hl
        have hnk : ((n.toNat : Nat) : Int) = n := by omega
        refine ⟨p, v, _, by rw [hnk]; exact x6, .inr ⟨by simp, ?_, _, _, rfl, hl, ?_, fun hq => by have := hd1.qn _ hq; omega⟩⟩
        · show 0 < n.toNat
          omega
        · intro e
          have := (hd1.ownV.lt _ e).2
          omega⟩
      have HB2 : Aside0 (Keeps B Q w ((((((w1.setCell ⟨b, 2, none⟩ (.slice (some ⟨w1.heap.size + 1, 0, none⟩) 1 1)).setCell ⟨b, 3, none⟩ (.int .i64 n)).setCell ⟨b, 4, none⟩ (.int .u8 lo)).setCell ⟨b, 5, none⟩ (.int .u8 hi)).alloc (.cells #[.int .u8 lo, .int .u8 hi] 40)).alloc (.cells #[.int .u8 c.toNat] 5))) := ⟨by
        have hs := hw1.size
        have y : Keeps B Q w ((((w1.setCell ⟨b, 2, none⟩ (.slice (some ⟨w1.heap.size + 1, 0, none⟩) 1 1)).setCell ⟨b, 3, none⟩ (.int .i64 n)).setCell ⟨b, 4, none⟩ (.int .u8 lo)).setCell ⟨b, 5, none⟩ (.int .u8 hi)) :=
          ((((Keeps.new hw1 hBw).setCell (p := ⟨b, 2, none⟩) hd1.base _).setCell (p := ⟨b, 3, none⟩) hd1.base _).setCell (p := ⟨b, 4, none⟩) hd1.base _).setCell (p := ⟨b, 5, none⟩) hd1.base _
        exact (y.alloc (by simp; omega) _).alloc (by simp; omega) _⟩
      clear hd1
      go_wp2_with fail
      go_region_with (fail)
      all_goals (
        go_wp2
        go_end0
        exact ⟨rfl, HW.out.drew, HB2.out.drew⟩)
end Go.Proofs.YtoejbjmdcokojaaDoor.Hand
