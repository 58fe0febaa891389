/- By hand: a byte is read, whatever the state. -/
import Derived.Test.YtoejbjmdcokojaaDoorInByte
namespace Go.Proofs.YtoejbjmdcokojaaDoor.Hand
set_option linter.unusedVariables false
set_option linter.unusedSimpArgs false
open Go Go.RowKit Go.Proofs.YtoejbjmdcokojaaDoorW.PrintWords

set_option maxHeartbeats 400000 in
set_option maxRecDepth 100000 in
theorem has_yes (lo hi c : Int) (h1 : lo ≤ c) (h2 : c ≤ hi) (w : World) :
    Calls Tryd.prog 22 #[.agg #[.int .u8 lo, .int .u8 hi], .int .u8 c] w fun e w' => e = .returned (.bool true) ∧ w' = w.alloc (.cells #[.int .u8 lo, .int .u8 hi] 40) := by
  go_enter Tryd.func22, Tryd.ntmps22
  go_wp2
  go_ret
  exact ⟨rfl, rfl⟩
set_option maxHeartbeats 400000 in
set_option maxRecDepth 100000 in
theorem has_no (lo hi c : Int) (h : ¬ (lo ≤ c ∧ c ≤ hi)) (w : World) :
    Calls Tryd.prog 22 #[.agg #[.int .u8 lo, .int .u8 hi], .int .u8 c] w fun e w' => e = .returned (.bool false) ∧ w' = w.alloc (.cells #[.int .u8 lo, .int .u8 hi] 40) := by
  by_cases h1 : lo ≤ c
  · have h2 : ¬ c ≤ hi := fun e => h ⟨h1, e⟩
    clear h
    go_enter Tryd.func22, Tryd.ntmps22
    go_wp2
    go_ret
    exact ⟨rfl, rfl⟩
  · clear h
    go_enter Tryd.func22, Tryd.ntmps22
    go_wp2
    go_ret
    exact ⟨rfl, rfl⟩

set_option maxHeartbeats 800000 in
set_option maxRecDepth 100000 in
theorem breaks_calls {B b : Nat} {Q : Nat → Prop} {s : DS} {w : World} (h : Dec B Q b s w) (hk : 0 < s.k) (hBw : B ≤ w.heap.size) (hlen : s.out.length + 3 ≤ 140737488355328) :
    Calls Tryd.prog 23 #[.pointer (some ⟨b, 0, none⟩)] w fun e w' => e = .returned (.tuple #[]) ∧ Dec B Q b (breaksS s) w' ∧ Keeps B Q w w' := by
  obtain ⟨p, v, o, hd, ho⟩ := h
  have d3 : w.cell? ⟨b, 3, none⟩ = some (.int .i64 s.k) := hd.cell 3
  have hk1 : (0 : Int) < s.k := by omega
  have hS : breaksS s = { s with out := s.out ++ fffd.data.toList, op := [], k := 0 } := by unfold breaksS; rw [if_pos hk]
  rw [hS]
  have HD := Aside0.mk hd
  clear hd ho hS
  go_enter Tryd.func23, Tryd.ntmps23
  go_wp2_with fail
  refine (dec_string fffd HD.out (by exact hlen) hBw).mono ?_
  rintro e w1 ⟨rfl, ⟨v', hv⟩, hb⟩
  have hbase := hv.base
  have d2 : w1.cell? ⟨b, 2, none⟩ = some o := hv.cell 2
  have e3 : w1.cell? ⟨b, 3, none⟩ = some (.int .i64 s.k) := hv.cell 3
  have z2 := hv.frozen 2
  have z3 := hv.frozen 3
  have HW : Aside0 (Dec B Q b { s with out := s.out ++ fffd.data.toList, op := [], k := 0 } ((w1.setCell ⟨b, 2, none⟩ (.slice none 0 0)).setCell ⟨b, 3, none⟩ (.int .i64 0))) := ⟨by
    have x1 := hv.store (p' := .pointer (some ⟨b, 0, none⟩)) (v' := v') (o' := .slice none 0 0) (bs' := s.out ++ fffd.data.toList) (k' := s.k) (lo' := s.lo) (hi' := s.hi) 2 (.slice none 0 0) rfl hv.ptr hv.own
    have x2 := x1.store (p' := .pointer (some ⟨b, 0, none⟩)) (v' := v') (o' := .slice none 0 0) (bs' := s.out ++ fffd.data.toList) (k' := 0) (lo' := s.lo) (hi' := s.hi) 3 (.int .i64 0) rfl x1.ptr x1.own
    exact ⟨_, v', _, x2, .inl ⟨rfl, rfl, rfl⟩⟩⟩
  have HB2 : Aside0 (Keeps B Q w ((w1.setCell ⟨b, 2, none⟩ (.slice none 0 0)).setCell ⟨b, 3, none⟩ (.int .i64 0))) := ⟨(hb.setCell (p := ⟨b, 2, none⟩) hbase _).setCell (p := ⟨b, 3, none⟩) hbase _⟩
  clear hv
  go_wp2
  first
    | (go_end0; exact ⟨rfl, HW.out, HB2.out⟩)
    | (go_region_with (fail)
       all_goals (go_wp2; go_end0; exact ⟨rfl, HW.out.drew, HB2.out.drew⟩))

theorem Dec.below {B b : Nat} {Q : Nat → Prop} {s : DS} {w w' : World} (h : Dec B Q b s w) (hb : Below w.heap.size w w') : Dec B Q b s w' := by
  obtain ⟨p, v, o, h, ho⟩ := h
  refine ⟨p, v, o, h.below hb, ?_⟩
  rcases ho with ho | ⟨h1, h2, g, cap, h3, h4, h5⟩
  · exact .inl ho
  · exact .inr ⟨h1, h2, g, cap, h3, pw_own_below h4 hb, h5⟩

set_option maxHeartbeats 800000 in
set_option maxRecDepth 100000 in
theorem byte_begin {B b : Nat} {Q : Nat → Prop} {s : DS} {w : World} (c : UInt8) (h : Dec B Q b s w) (hk : s.k = 0) (hL : LaidW w) (hB2 : 2 ≤ B) (hBw : B ≤ w.heap.size) (hlen : s.out.length + 3 ≤ 140737488355328) :
    Calls Tryd.prog 16 #[.pointer (some ⟨b, 0, none⟩), .int .u8 c.toNat] w fun e w' => e = .returned (.tuple #[]) ∧ Dec B Q b (beginS s c) w' ∧ Keeps B Q w w' := by
  have hop : s.op = [] := by
    obtain ⟨p, v, o, hd, ho⟩ := h
    rcases ho with ⟨h1, _⟩ | ⟨_, h1, _⟩
    · exact h1
    · omega
  have hbeg := Aside0.mk (begin_calls c h hop hL hB2 hBw hlen)
  obtain ⟨p, v, o, hd, ho⟩ := h
  have d3 : w.cell? ⟨b, 3, none⟩ = some (.int .i64 s.k) := hd.cell 3
  rw [hk] at d3
  clear hd ho
  go_enter Tryd.func16, Tryd.ntmps16
  go_wp2_with (go_at_call 24; refine hbeg.out.mono ?_; rintro e w1 ⟨rfl, h1, h2⟩)
  first | go_end0 | refine bodyPost_ret (results_none rfl _ _ _) rfl ?_
  exact ⟨rfl, h1, h2⟩

set_option maxHeartbeats 800000 in
set_option maxRecDepth 100000 in
theorem byte_breaks {B b : Nat} {Q : Nat → Prop} {s : DS} {w : World} (c : UInt8) (h : Dec B Q b s w) (hk : 0 < s.k) (hno : ¬ (s.lo ≤ c.toNat ∧ (c.toNat : Int) ≤ s.hi)) (hL : LaidW w) (hB2 : 2 ≤ B) (hBw : B ≤ w.heap.size) (hlen : s.out.length + 6 ≤ 140737488355328) :
    Calls Tryd.prog 16 #[.pointer (some ⟨b, 0, none⟩), .int .u8 c.toNat] w fun e w' => e = .returned (.tuple #[]) ∧ Dec B Q b (beginS (breaksS s) c) w' ∧ Keeps B Q w w' := by
  have HH := Aside0.mk h
  obtain ⟨p, v, o, hd, ho⟩ := h
  have d3 : w.cell? ⟨b, 3, none⟩ = some (.int .i64 s.k) := hd.cell 3
  have d4 : w.cell? ⟨b, 4, none⟩ = some (.int .u8 s.lo) := hd.cell 4
  have d5 : w.cell? ⟨b, 5, none⟩ = some (.int .u8 s.hi) := hd.cell 5
  have hk1 : (0 : Int) < s.k := by omega
  have hnot : ∀ (x : Bool) (w : World), (Op.unary .not (.bool x)).run Tryd.prog w = .ok (.bool (!x)) w := fun _ _ => rfl
  have HL := Aside0.mk hL
  clear hd ho hL
  go_enter Tryd.func16, Tryd.ntmps16
  go_wp2_with (go_at_call 22; refine (has_no _ _ _ hno _).mono ?_; rintro e w1 ⟨rfl, hw1⟩; have HW1 := Aside0.mk hw1; clear hw1)
  have hb1 : Below w.heap.size w w1 := by rw [HW1.out]; exact below_alloc (Below.refl _ _) _
  have hB1 := Nat.le_trans hBw hb1.size
  refine (breaks_calls (HH.out.below hb1) hk hB1 (by omega)).mono ?_
  rintro e w2 ⟨rfl, h2, hb2⟩
  have hB2' := Nat.le_trans hB1 hb2.size
  have hbeg := Aside0.mk (begin_calls c h2 rfl ((HL.out.below hb1 (by omega)).keeps hb2 hB2) hB2 hB2' (by unfold breaksS; simp only; rw [if_pos hk, List.length_append]; have : fffd.data.toList.length = 3 := rfl; omega))
  obtain ⟨p2, v2, o2, hd2, _⟩ := h2
  have e3 : w2.cell? ⟨b, 3, none⟩ = some (.int .i64 0) := hd2.cell 3
  have HB2 := Aside0.mk ((Keeps.new hb1 hBw).trans hb2)
  clear hd2 hb1 hb2
  go_wp2_with (go_at_call 24; refine hbeg.out.mono ?_; rintro e w3 ⟨rfl, h3, hb3⟩)
  first | go_end0 | refine bodyPost_ret (results_none rfl _ _ _) rfl ?_
  exact ⟨rfl, h3, HB2.out.trans hb3⟩

theorem dec_write' {B b g cap : Nat} {Q : Nat → Prop} {p v o : Value} {bs op : List UInt8} {k lo hi : Int} {w : World} (n : Nat) (hn : n = op.length) (h : DecV B Q b p v o bs k lo hi w) (hop : w.ownsRow B 5 1 (.slice (some ⟨g, 0, none⟩) n cap) n (bytesV op)) (hgb : g ≠ b) (hlen : bs.length + op.length ≤ 140737488355328) (hBw : B ≤ w.heap.size) :
    Calls Tryd.prog 25 #[.pointer (some ⟨b, 0, none⟩), .slice (some ⟨g, 0, none⟩) n cap] w fun e w' => e = .returned (.tuple #[.int .i64 n, .nilIface]) ∧ Told B Q b o (bs ++ op) k lo hi w w' := by
  subst hn
  exact dec_write h hop hgb hlen hBw

set_option maxHeartbeats 800000 in
set_option maxRecDepth 100000 in
theorem byte_more {B b : Nat} {Q : Nat → Prop} {s : DS} {w : World} (c : UInt8) (h : Dec B Q b s w) (hk : 0 < s.k) (hyes : s.lo ≤ c.toNat ∧ (c.toNat : Int) ≤ s.hi) (hL : LaidW w) (hB2 : 2 ≤ B) (hBw : B ≤ w.heap.size) (hk3 : s.k ≤ 3) (hop3 : s.op.length ≤ 3) (hlen : s.out.length + 6 ≤ 140737488355328) :
    Calls Tryd.prog 16 #[.pointer (some ⟨b, 0, none⟩), .int .u8 c.toNat] w fun e w' => e = .returned (.tuple #[]) ∧ Dec B Q b (moreS s c) w' ∧ Keeps B Q w w' := by
  obtain ⟨i0, hi0, hz0, hz1, hz2⟩ := info_parts byte_info
  obtain ⟨p, v, o, hd, ho⟩ := h
  have ho2 : ∃ g cap, o = .slice (some ⟨g, 0, none⟩) s.op.length cap ∧ w.ownsRow B 5 1 o s.op.length (bytesV s.op) ∧ v.ownBlock ≠ some g ∧ ¬ Q g := by
    rcases ho with ⟨_, h1, _⟩ | ⟨_, _, h1⟩
    · omega
    · exact h1
  obtain ⟨g, cap, rfl, hown, hvg, hqg⟩ := ho2
  have d2 : w.cell? ⟨b, 2, none⟩ = some (.slice (some ⟨g, 0, none⟩) s.op.length cap) := hd.cell 2
  have d3 : w.cell? ⟨b, 3, none⟩ = some (.int .i64 s.k) := hd.cell 3
  have d4 : w.cell? ⟨b, 4, none⟩ = some (.int .u8 s.lo) := hd.cell 4
  have d5 : w.cell? ⟨b, 5, none⟩ = some (.int .u8 s.hi) := hd.cell 5
  have hk1 : (0 : Int) < s.k := by omega
  have hk0 : ¬ (s.k : Int) = 0 := by omega
  have hbl := hd.lt
  have hnot : ∀ (x : Bool) (w : World), (Op.unary .not (.bool x)).run Tryd.prog w = .ok (.bool (!x)) w := fun _ _ => rfl
  have HL := Aside0.mk hL
  have HD := Aside0.mk hd
  have HO := Aside0.mk hown
  have hy1 := hyes.1
  have hy2 := hyes.2
  clear hd ho hL hown hyes
  go_enter Tryd.func16, Tryd.ntmps16
  have HOX : Aside0 (((w.alloc (.cells #[.int .u8 s.lo, .int .u8 s.hi] 40)).alloc (.cells #[.int .u8 c.toNat] 5)).ownsRow B 5 1 (.slice (some ⟨g, 0, none⟩) s.op.length cap) s.op.length (bytesV s.op)) := ⟨(HO.out.alloc _).alloc _⟩
  have HBX : Keeps B Q w ((w.alloc (.cells #[.int .u8 s.lo, .int .u8 s.hi] 40)).alloc (.cells #[.int .u8 c.toNat] 5)) := ((Keeps.refl B Q w).alloc hBw _).alloc (by simp; omega) _
  have HDX := (HD.out.below (below_alloc (Below.refl w.heap.size w) (.cells #[.int .u8 s.lo, .int .u8 s.hi] 40))).below (below_alloc (Below.refl _ _) (.cells #[.int .u8 c.toNat] 5))
  have hgb : g ≠ b := by
    have := Lib.ownBlock_ne HO.out HD.out.blk (by decide)
    intro e; exact this (by rw [e]; rfl)
  have HLX := (HL.out.keeps HBX hB2)
  have HX : Aside0 (DecV B Q b p v (.slice (some ⟨g, 0, none⟩) s.op.length cap) s.out s.k s.lo s.hi ((w.alloc (.cells #[.int .u8 s.lo, .int .u8 s.hi] 40)).alloc (.cells #[.int .u8 c.toNat] 5)) ∧ Keeps B Q w ((w.alloc (.cells #[.int .u8 s.lo, .int .u8 s.hi] 40)).alloc (.cells #[.int .u8 c.toNat] 5)) ∧ LaidW ((w.alloc (.cells #[.int .u8 s.lo, .int .u8 s.hi] 40)).alloc (.cells #[.int .u8 c.toNat] 5))) := ⟨HDX, HBX, HLX⟩
  clear HBX HDX HLX
  go_wp2_with (first | (go_at_call 22; refine (has_yes _ _ _ hy1 hy2 _).mono ?_; rintro e w1 ⟨rfl, hw1⟩; rw [hw1]; clear hw1) | (at_builtin; refine wpList_append_lies _ rfl _ _ 23 rfl B 5 i0 (.int .u8 0) 1 1 Tryd.underlying23 hi0 hz0 hz1 hz2 rfl (by decide) _ _ _ rfl HOX.out ⟨w.heap.size + 1, 0, none⟩ 1 1 [.int .u8 c.toNat] rfl rfl ?c1 ?c2 (by omega) ?c3 ?c4 ?c5 _ rfl ?_))
  case c1 =>
    intro j u hj
    match j, hj with
    | 0, hj => simp at hj; subst hj; simp [Addr.add]
  case c2 => intro u hu; simp at hu; subst hu; rfl
  case c3 => unfold maxLen; omega
  case c4 => omega
  case c5 => exact Nat.le_trans hBw (by simp; omega)
  intro g' cap' w2 hown2 hgrow hat hlt2
  obtain ⟨hdx, hbx, hlx⟩ := HX.out
  have hbX := hdx.lt
  have hD2 : DecV B Q b p v (.slice (some ⟨g, 0, none⟩) s.op.length cap) s.out s.k s.lo s.hi w2 :=
    ⟨hdx.base, (hgrow.block b hbX (fun e => hgb (Option.some.inj e).symm)).trans hdx.blk, hdx.ptr, hdx.ownV.kept hgrow (.inr hvg), fun q hq => Nat.lt_of_lt_of_le (hdx.qn q hq) hgrow.size, hdx.qv⟩
  have hB2w : Keeps B Q w w2 := hbx.grown hgrow (Nat.le_trans hBw hbx.size) (fun k hk => ⟨(HOX.out.lt k hk).1, by have e : g = k := Option.some.inj hk; exact e ▸ hqg⟩)
  have hl2 : LaidW w2 := HL.out.keeps hB2w hB2
  have hv2 : v.ownBlock ≠ some g' := by
    intro e
    have h1 := (HD.out.ownV.lt _ e).2
    rcases hat with h2 | h2
    · exact hvg (e.trans (by rw [← h2]; rfl))
    · have h3 : g' = w.heap.size + 2 := by rw [h2]
      omega
  have hqg2 : ¬ Q g' := by
    rcases hat with h2 | h2
    · have e : g = g' := Option.some.inj h2
      exact e ▸ hqg
    · intro hq
      have := HD.out.qn _ hq
      omega
  have hbb : 2 ≤ b := Nat.le_trans hB2 hdx.base.1
  rw [show bytesV s.op ++ [.int .u8 c.toNat] = bytesV (s.op ++ [c]) by rw [bytesV_append]; rfl] at hown2
  obtain ⟨n, hn⟩ : ∃ n, n = s.op.length + 1 := ⟨_, rfl⟩
  rw [← hn] at hown2 ⊢
  have hgb2 : g' ≠ b := by
    have := Lib.ownBlock_ne hown2 hD2.blk (by decide)
    intro e; exact this (by rw [e]; rfl)
  have e2 : w2.cell? ⟨b, 2, none⟩ = some (.slice (some ⟨g, 0, none⟩) s.op.length cap) := hD2.cell 2
  have e3 : w2.cell? ⟨b, 3, none⟩ = some (.int .i64 s.k) := hD2.cell 3
  have e4 : w2.cell? ⟨b, 4, none⟩ = some (.int .u8 s.lo) := hD2.cell 4
  have e5 : w2.cell? ⟨b, 5, none⟩ = some (.int .u8 s.hi) := hD2.cell 5
  have z2 := hD2.frozen 2
  have z3 := hD2.frozen 3
  have z4 := hD2.frozen 4
  have z5 := hD2.frozen 5
  have l0 : ∀ u, (w2.setCell ⟨b, 2, none⟩ u).cell? ⟨0, 0, none⟩ = some (.int .u8 128) := fun u => (World.cell?_setCell_other _ _ _ _ (fun e => by have := congrArg Addr.block e; simp at this; omega)).trans hl2.1
  have l1 : ∀ u, (w2.setCell ⟨b, 2, none⟩ u).cell? ⟨0, 1, none⟩ = some (.int .u8 191) := fun u => (World.cell?_setCell_other _ _ _ _ (fun e => by have := congrArg Addr.block e; simp at this; omega)).trans hl2.2.1
  have hbase := hD2.base
  have hkm : ∀ km : Int, DecV B Q b p v (.slice (some ⟨g', 0, none⟩) n cap') s.out km 128 191 ((((w2.setCell ⟨b, 2, none⟩ (.slice (some ⟨g', 0, none⟩) n cap')).setCell ⟨b, 4, none⟩ (.int .u8 128)).setCell ⟨b, 5, none⟩ (.int .u8 191)).setCell ⟨b, 3, none⟩ (.int .i64 km)) ∧
      ((((w2.setCell ⟨b, 2, none⟩ (.slice (some ⟨g', 0, none⟩) n cap')).setCell ⟨b, 4, none⟩ (.int .u8 128)).setCell ⟨b, 5, none⟩ (.int .u8 191)).setCell ⟨b, 3, none⟩ (.int .i64 km)).ownsRow B 5 1 (.slice (some ⟨g', 0, none⟩) n cap') n (bytesV (s.op ++ [c])) ∧
      Keeps B Q w ((((w2.setCell ⟨b, 2, none⟩ (.slice (some ⟨g', 0, none⟩) n cap')).setCell ⟨b, 4, none⟩ (.int .u8 128)).setCell ⟨b, 5, none⟩ (.int .u8 191)).setCell ⟨b, 3, none⟩ (.int .i64 km)) := by
    intro km
    have x1 := hD2.store (p' := p) (v' := v) (o' := .slice (some ⟨g', 0, none⟩) n cap') (bs' := s.out) (k' := s.k) (lo' := s.lo) (hi' := s.hi) 2 (.slice (some ⟨g', 0, none⟩) n cap') rfl hD2.ptr hD2.own
    have x2 := x1.store (p' := p) (v' := v) (o' := .slice (some ⟨g', 0, none⟩) n cap') (bs' := s.out) (k' := s.k) (lo' := 128) (hi' := s.hi) 4 (.int .u8 128) rfl x1.ptr x1.own
    have x3 := x2.store (p' := p) (v' := v) (o' := .slice (some ⟨g', 0, none⟩) n cap') (bs' := s.out) (k' := s.k) (lo' := 128) (hi' := 191) 5 (.int .u8 191) rfl x2.ptr x2.own
    have x4 := x3.store (p' := p) (v' := v) (o' := .slice (some ⟨g', 0, none⟩) n cap') (bs' := s.out) (k' := km) (lo' := 128) (hi' := 191) 3 (.int .i64 km) rfl x3.ptr x3.own
    have no : (Value.slice (some ⟨g', 0, none⟩) n cap').ownBlock ≠ some b := fun e => hgb2 (Option.some.inj e)
    exact ⟨x4, own_set (own_set (own_set (own_set hown2 no 2 _) no 4 _) no 5 _) no 3 _, (((hB2w.setCell (p := ⟨b, 2, none⟩) hbase _).setCell (p := ⟨b, 4, none⟩) hbase _).setCell (p := ⟨b, 5, none⟩) hbase _).setCell (p := ⟨b, 3, none⟩) hbase _⟩
  have HKM := Aside0.mk hkm
  have HN := Aside0.mk hn
  clear hkm hD2 hB2w hl2 hown2 hgrow hat hlt2 hdx hbx hlx hn
  have hlen2 : (s.op ++ [c]).length = n := by rw [HN.out]; simp
  by_cases hk1e : s.k = 1
  · rw [hk1e] at e3
    have hS : moreS s c = { out := s.out ++ (s.op ++ [c]), op := [], k := 0, lo := 128, hi := 191 } := by unfold moreS; rw [if_pos hk1e]
    have HS := Aside0.mk hS
    clear hS
    obtain ⟨y1, y2, y3⟩ := HKM.out 0
    have hw5 := Nat.le_trans hBw y3.size
    have HWr := Aside0.mk (dec_write' n hlen2.symm y1.drew (show World.ownsRow (World.drew _) B 5 1 _ n _ from y2) hgb2 (by rw [hlen2, HN.out]; omega) (show B ≤ (World.drew _).heap.size from hw5))
    have HB5 := Aside0.mk y3
    clear y1 y2 y3
    go_wp2_with fail
    go_region_with (go_at_call 25; refine HWr.out.mono ?_; rintro e w6 ⟨rfl, hT⟩)
    all_goals (
      obtain ⟨⟨v6, h6⟩, hb6⟩ := hT
      have f2 : w6.cell? ⟨b, 2, none⟩ = some (.slice (some ⟨g', 0, none⟩) n cap') := h6.cell 2
      have zz2 := h6.frozen 2
      have HW : Aside0 (Dec B Q b { out := s.out ++ (s.op ++ [c]), op := [], k := 0, lo := 128, hi := 191 } (w6.setCell ⟨b, 2, none⟩ (.slice none 0 0))) := ⟨by
        have x1 := h6.store (p' := .pointer (some ⟨b, 0, none⟩)) (v' := v6) (o' := .slice none 0 0) (bs' := s.out ++ (s.op ++ [c])) (k' := 0) (lo' := 128) (hi' := 191) 2 (.slice none 0 0) rfl h6.ptr h6.own
        exact ⟨_, v6, _, x1, .inl ⟨rfl, rfl, rfl⟩⟩⟩
      have HB6 : Aside0 (Keeps B Q w (w6.setCell ⟨b, 2, none⟩ (.slice none 0 0))) := ⟨(HB5.out.drew.trans hb6).setCell (p := ⟨b, 2, none⟩) hbase _⟩
      clear h6 hb6
      go_wp2
      go_end0
      exact ⟨rfl, by rw [HS.out]; exact HW.out, HB6.out⟩)
  · have hk2 : ¬ (s.k : Int) - 1 = 0 := by omega
    have hS : moreS s c = { s with op := s.op ++ [c], k := s.k - 1, lo := 128, hi := 191 } := by unfold moreS; rw [if_neg hk1e]
    have HS := Aside0.mk hS
    clear hS
    have hks : (((s.k - 1 : Nat)) : Int) = (s.k : Int) - 1 := by omega
    obtain ⟨y1, y2, y3⟩ := HKM.out ((s.k : Int) - 1)
    rw [← hks] at y1 y2 y3
    have HW : Aside0 (Dec B Q b { s with op := s.op ++ [c], k := s.k - 1, lo := 128, hi := 191 } ((((w2.setCell ⟨b, 2, none⟩ (.slice (some ⟨g', 0, none⟩) n cap')).setCell ⟨b, 4, none⟩ (.int .u8 128)).setCell ⟨b, 5, none⟩ (.int .u8 191)).setCell ⟨b, 3, none⟩ (.int .i64 ((s.k - 1 : Nat) : Int)))) :=
      ⟨p, v, _, y1, .inr ⟨by simp, by show 0 < s.k - 1; omega, g', cap', by show Value.slice (some ⟨g', 0, none⟩) n cap' = .slice (some ⟨g', 0, none⟩) (s.op ++ [c]).length cap'; rw [hlen2], by show World.ownsRow _ B 5 1 _ (s.op ++ [c]).length _; rw [hlen2]; exact y2, hv2, hqg2⟩⟩
    have HB5 := Aside0.mk y3
    rw [hks] at HW HB5
    clear y1 y2 y3 hks
    go_wp2_with fail
    go_end0
    exact ⟨rfl, by rw [HS.out]; exact HW.out, HB5.out⟩

/-- New blocks belong to others. -/
theorem Dec.more {B b : Nat} {Q : Nat → Prop} {s : DS} {w w' : World} (h : Dec B Q b s w) (hb : Below w.heap.size w w') : Dec B (fun q => Q q ∨ (w.heap.size ≤ q ∧ q < w'.heap.size)) b s w' := by
  have h2 := h.below hb
  obtain ⟨p, v, o, h, ho⟩ := h
  obtain ⟨hd, hc⟩ : DecV B Q b p v o s.out s.k s.lo s.hi w' ∧ _ := ⟨h.below hb, ho⟩
  have hl := h.lt
  refine ⟨p, v, o, ⟨⟨h.base.1, fun e => e.elim h.base.2 (fun e => by omega)⟩, hd.blk, hd.ptr, hd.ownV, fun q hq => hq.elim (hd.qn q) (fun e => e.2), fun g hg e => e.elim (hd.qv g hg) (fun e => by have := (h.ownV.lt g hg).2; omega)⟩, ?_⟩
  rcases ho with ho | ⟨h1, h2, g, cap, h3, h4, h5, h6⟩
  · exact .inl ho
  · refine .inr ⟨h1, h2, g, cap, h3, pw_own_below h4 hb, h5, fun e => e.elim h6 (fun e => ?_)⟩
    have := (h4.lt g (by rw [h3]; rfl)).2
    omega
theorem Dec.less {B b : Nat} {Q Q2 : Nat → Prop} {s : DS} {w : World} (h : Dec B Q b s w) (hQ : ∀ q, Q2 q → Q q) : Dec B Q2 b s w := by
  obtain ⟨p, v, o, h, ho⟩ := h
  refine ⟨p, v, o, ⟨⟨h.base.1, fun e => h.base.2 (hQ _ e)⟩, h.blk, h.ptr, h.ownV, fun q hq => h.qn q (hQ q hq), fun g hg e => h.qv g hg (hQ g e)⟩, ?_⟩
  rcases ho with ho | ⟨h1, h2, g, cap, h3, h4, h5, h6⟩
  · exact .inl ho
  · exact .inr ⟨h1, h2, g, cap, h3, h4, h5, fun e => h6 (hQ g e)⟩
/-- A row of another's is written. -/
theorem Dec.other {B b : Nat} {Q : Nat → Prop} {s : DS} {w w' : World} {row : Option Nat} (h : Dec B Q b s w) (hg : w.grownBy w' row) (hr : ∀ k, row = some k → Q k) : Dec B Q b s w' := by
  obtain ⟨p, v, o, h, ho⟩ := h
  have hne : ∀ g, ¬ Q g → some g ≠ row := fun g hq e => hq (hr g e.symm)
  have hv : v.ownBlock = none ∨ v.ownBlock ≠ row := by
    cases hv : v.ownBlock with
    | none => exact .inl rfl
    | some g => exact .inr (hne g (h.qv g hv))
  refine ⟨p, v, o, ⟨h.base, (hg.block b h.lt (hne b h.base.2)).trans h.blk, h.ptr, h.ownV.kept hg hv, fun q hq => Nat.lt_of_lt_of_le (h.qn q hq) hg.size, h.qv⟩, ?_⟩
  rcases ho with ho | ⟨h1, h2, g, cap, h3, h4, h5, h6⟩
  · exact .inl ho
  · refine .inr ⟨h1, h2, g, cap, h3, h4.kept hg (.inr ?_), h5, h6⟩
    rw [h3]
    exact hne g h6

/-- What is always so. -/
structure Good (s : DS) : Prop where
  k3 : s.k ≤ 3
  op3 : s.op.length + s.k ≤ 4
  nil : s.op = [] ↔ s.k = 0
theorem asks_range (c : Int) : (asksI c).1 ≤ 3 := by
  unfold asksI
  repeat' split
  all_goals (simp only; omega)
theorem good_begin {s : DS} (c : UInt8) (h : Good s) (hk : s.k = 0) : Good (beginS s c) ∧ (beginS s c).out.length + (beginS s c).op.length ≤ s.out.length + s.op.length + 3 := by
  have ha := asks_range c.toNat
  have ho := h.nil.2 hk
  unfold beginS
  by_cases h1 : (asksI c.toNat).1 < 0
  · rw [if_pos h1]
    refine ⟨⟨h.k3, h.op3, h.nil⟩, ?_⟩
    simp only [List.length_append]; have : fffd.data.toList.length = 3 := rfl; omega
  · rw [if_neg h1]
    by_cases h2 : (asksI c.toNat).1 = 0
    · rw [if_pos h2]
      refine ⟨⟨h.k3, h.op3, h.nil⟩, ?_⟩
      simp only [List.length_append, List.length_cons, List.length_nil]; omega
    · rw [if_neg h2]
      refine ⟨⟨by simp only; omega, by simp only [List.length_cons, List.length_nil]; omega, ?_⟩, by simp only [List.length_cons, List.length_nil]; omega⟩
      simp only [List.cons_ne_nil, false_iff]; omega
theorem good_breaks {s : DS} (h : Good s) : Good (breaksS s) ∧ (breaksS s).k = 0 ∧ (breaksS s).out.length + (breaksS s).op.length ≤ s.out.length + s.op.length + 3 := by
  unfold breaksS
  refine ⟨⟨by simp, by simp, by simp⟩, rfl, ?_⟩
  simp only
  split
  · rw [List.length_append]; have : fffd.data.toList.length = 3 := rfl; simp only [List.length_nil]; omega
  · simp only [List.length_nil]; omega
theorem good_byte {s : DS} (c : UInt8) (h : Good s) : Good (byteS s c) ∧ (byteS s c).out.length + (byteS s c).op.length ≤ s.out.length + s.op.length + 6 := by
  unfold byteS
  by_cases hk : s.k = 0
  · rw [if_pos hk]
    have := good_begin c h hk
    exact ⟨this.1, by omega⟩
  · rw [if_neg hk]
    by_cases hr : s.lo ≤ c.toNat ∧ (c.toNat : Int) ≤ s.hi
    · rw [if_pos hr]
      unfold moreS
      have h1 := h.k3
      have h2 := h.op3
      by_cases h3 : s.k = 1
      · rw [if_pos h3]
        exact ⟨⟨by simp, by simp, by simp⟩, by simp; omega⟩
      · rw [if_neg h3]
        refine ⟨⟨by simp only; omega, by simp; omega, ?_⟩, by simp; omega⟩
        simp; omega
    · rw [if_neg hr]
      obtain ⟨b1, b2, b3⟩ := good_breaks h
      have := good_begin c b1 b2
      exact ⟨this.1, by omega⟩

theorem byte_calls {B b : Nat} {Q : Nat → Prop} {s : DS} {w : World} (c : UInt8) (h : Dec B Q b s w) (hg : Good s) (hL : LaidW w) (hB2 : 2 ≤ B) (hBw : B ≤ w.heap.size) (hlen : s.out.length + 6 ≤ 140737488355328) :
    Calls Tryd.prog 16 #[.pointer (some ⟨b, 0, none⟩), .int .u8 c.toNat] w fun e w' => e = .returned (.tuple #[]) ∧ Dec B Q b (byteS s c) w' ∧ Keeps B Q w w' := by
  unfold byteS
  by_cases hk : s.k = 0
  · rw [if_pos hk]
    exact byte_begin c h hk hL hB2 hBw (by omega)
  · rw [if_neg hk]
    by_cases hr : s.lo ≤ c.toNat ∧ (c.toNat : Int) ≤ s.hi
    · rw [if_pos hr]
      have := hg.op3
      exact byte_more c h (by omega) hr hL hB2 hBw hg.k3 (by omega) hlen
    · rw [if_neg hr]
      exact byte_breaks c h (by omega) hr hL hB2 hBw hlen

def feedS (s : DS) (l : List UInt8) : DS := l.foldl byteS s
theorem good_feed : ∀ (l : List UInt8) (s : DS), Good s → Good (feedS s l) ∧ (feedS s l).out.length + (feedS s l).op.length ≤ s.out.length + s.op.length + 6 * l.length := by
  intro l
  induction l with
  | nil => intro s h; exact ⟨h, by simp [feedS]⟩
  | cons c l ih =>
    intro s h
    obtain ⟨g1, g2⟩ := good_byte c h
    obtain ⟨i1, i2⟩ := ih _ g1
    refine ⟨i1, ?_⟩
    show (feedS (byteS s c) l).out.length + (feedS (byteS s c) l).op.length ≤ _
    rw [List.length_cons]; omega
theorem feed_snoc (s : DS) (l : List UInt8) (c : UInt8) : feedS s (l ++ [c]) = byteS (feedS s l) c := by unfold feedS; rw [List.foldl_append]; rfl
end Go.Proofs.YtoejbjmdcokojaaDoor.Hand
