/- By hand: the law InputParts, walked. -/
import Derived.Test.YtoejbjmdcokojaaDoorInConv
import Derived.Test.YtoejbjmdcokojaaDoorRefIn
import Derived.Maps.AppendAt
namespace Go.Proofs.YtoejbjmdcokojaaDoor.Hand
set_option linter.unusedVariables false
set_option linter.unusedSimpArgs false
open Go Go.RowKit Go.Proofs.YtoejbjmdcokojaaDoorW.PrintWords Go.Proofs.YtoejbjmdcokojaaDoorW.PrintLast Go.Proofs.YtoejbjmdcokojaaDoorW.PrintMore

/-! ### What is summed, what is gathered -/
def sumW (bs : Nat → List UInt8) : Nat → Int
  | 0 => 0
  | j + 1 => wrap64 (sumW bs j + ((bs j).length : Int))
def catB (bs : Nat → List UInt8) : Nat → List UInt8
  | 0 => []
  | j + 1 => catB bs j ++ bs j
theorem sum_cat (bs : Nat → List UInt8) : ∀ j, j ≤ 200 → (∀ r, r < j → (bs r).length ≤ 140737488351232) → sumW bs j = ((catB bs j).length : Int) ∧ (catB bs j).length ≤ j * 140737488351232
  | 0, _, _ => ⟨rfl, Nat.zero_le _⟩
  | j + 1, hj, h => by
    obtain ⟨h1, h2⟩ := sum_cat bs j (by omega) fun r hr => h r (by omega)
    have h3 := h j (by omega)
    rw [sumW, catB, List.length_append, h1]
    refine ⟨?_, by omega⟩
    unfold wrap64
    omega
theorem cat_mono (bs : Nat → List UInt8) (j : Nat) : ∀ n, j ≤ n → (catB bs j).length ≤ (catB bs n).length
  | 0, h => by rw [Nat.le_zero.1 h]; exact Nat.le_refl _
  | n + 1, h => by
    rcases Nat.lt_or_ge n j with h1 | h1
    · have : j = n + 1 := by omega
      rw [this]; exact Nat.le_refl _
    · rw [catB, List.length_append]
      have := cat_mono bs j n h1
      omega
theorem feed_cat (bs : Nat → List UInt8) (j : Nat) : feedS (feedS newS (catB bs j)) (bs j) = feedS newS (catB bs (j + 1)) := by
  rw [catB]
  unfold feedS
  rw [List.foldl_append]

/-! ### append of a row that comes in, nil or not -/
section
variable {P : Program} (w : World)
theorem run_app_none (base : Nat) (t ty e : TypeId) (i : TypeInfo) (size : Nat) (ht : P.underlying t = some (.slice e)) (hi : P.info? e = some i) (v : Value) (n : Nat) (xs : List Value) (hown : w.ownsRow base e size v n xs) (c : Nat) :
    (Builtin.append_ #[t, t] ty #[v, .slice none 0 c]).run P w = .ok v w := by
  have hr : ∀ (b : Option Addr) (n cap : Nat), n ≤ cap → (Builtin.append_ #[t, t] ty #[.slice b n cap, .slice none 0 c]).run P w = .ok (.slice b n cap) w := by
    intro b n cap hn
    cases b <;> simp [Builtin.append_, run_underlying ht, sizeOf, typeInfo, hi, Builtin.lenOf, Builtin.firstCells, hn, storeCells]
  rcases hown.2 with ⟨rfl, rfl⟩ | ⟨g, cap, cur, rfl, _, _, hnc, _⟩
  · exact hr _ _ _ (Nat.le_refl _)
  · exact hr _ _ _ hnc
theorem app_rows_at (base : Nat) (t ty e : TypeId) (i : TypeInfo) (z : Value) (size bytes : Nat) (ht : P.underlying t = some (.slice e)) (hi : P.info? e = some i) (hz : i.zero = some z) (hsize : i.size = size) (hby : i.bytes = bytes) (hzs : z.cells.size = size) (hsz : 0 < size)
    (v : Value) (n : Nat) (xs : List Value) (hown : w.ownsRow base e size v n xs) (A : Option Addr) (m c : Nat) (news : List Value) (hl : news.length = m * size) (hA : 0 < m → ∃ ad, A = some ad ∧ ∀ j u, news[j]? = some u → w.cell? (ad.add j) = some u) (h1 : ∀ u ∈ news, u.oneCell' = true)
    (h63 : n + m ≤ maxLen) (hbytes : (n + m) * bytes ≤ 140737488355328) (hbase : base ≤ w.heap.size) :
    ∃ v' w', (Builtin.append_ #[t, t] ty #[v, .slice A m c]).run P w = .ok v' w' ∧ w'.ownsRow base e size v' (n + m) (xs ++ news) ∧ w.grownBy w' v.ownBlock ∧ ∀ g, v'.ownBlock = some g → v.ownBlock = some g ∨ w.heap.size ≤ g := by
  have h0 : m = 0 → news = [] := fun h => List.eq_nil_of_length_eq_zero (by rw [hl, h, Nat.zero_mul])
  cases A with
  | none =>
    obtain rfl : m = 0 := by
      rcases Nat.eq_zero_or_pos m with h | h
      · exact h
      · obtain ⟨_, h, _⟩ := hA h; cases h
    rw [h0 rfl]
    refine ⟨v, w, run_app_none w base t ty e i size ht hi v n xs hown c, by simpa using hown, ⟨rfl, rfl, rfl, Nat.le_refl _, fun _ _ _ => rfl⟩, fun g hg => .inl hg⟩
  | some ad =>
    have hn : ∀ j u, news[j]? = some u → w.cell? (ad.add j) = some u := by
      rcases Nat.eq_zero_or_pos m with h | h
      · rw [h0 h]; intro j u hu; simp at hu
      · obtain ⟨ad', e, h⟩ := hA h; cases e; exact h
    obtain ⟨v', w', hr, h2, h3, _, h5⟩ := run_append_own_at (P := P) w base t ty e i z size bytes ht hi hz hsize hby hzs hsz v n xs hown ad m c news hl hn h1 h63 hbytes hbase
    refine ⟨v', w', hr, h2, h3, fun g hg => ?_⟩
    rcases h5 with h5 | h5
    · exact .inl (h5 ▸ hg)
    · rw [h5] at hg
      exact .inr (by have := Option.some.inj hg; omega)
theorem wpList_app_rows {ops : Array Oper} {rest : List Oper} {o : Oper} {a : Act} {K0 : Exit → Act → World → Prop} (hgd : o.guard = none) (s x : Operand) (t : TypeId) (ho : o.op = .call { callee := .builtin .append, args := #[s, x], argTypes := #[t, t] })
    (base : Nat) (e : TypeId) (i : TypeInfo) (z : Value) (size bytes : Nat) (ht : P.underlying t = some (.slice e)) (hi : P.info? e = some i) (hz : i.zero = some z) (hsize : i.size = size) (hby : i.bytes = bytes) (hzs : z.cells.size = size) (hsz : 0 < size)
    (v : Value) (n : Nat) (xs : List Value) (hs : a.eval s = v) (hown : w.ownsRow base e size v n xs) (A : Option Addr) (m c : Nat) (news : List Value) (hx : a.eval x = .slice A m c) (hl : news.length = m * size)
    (hA : 0 < m → ∃ ad, A = some ad ∧ ∀ j u, news[j]? = some u → w.cell? (ad.add j) = some u) (h1 : ∀ u ∈ news, u.oneCell' = true) (h63 : n + m ≤ maxLen) (hbytes : (n + m) * bytes ≤ 140737488355328) (hbase : base ≤ w.heap.size)
    (h : ∀ v' w', w'.ownsRow base e size v' (n + m) (xs ++ news) → w.grownBy w' v.ownBlock → (∀ g, v'.ownBlock = some g → v.ownBlock = some g ∨ w.heap.size ≤ g) → wpList P ops K0 rest (a.put o.dst v') w') : wpList P ops K0 (o :: rest) a w := by
  refine wpList_plain hgd fun K hK => ?_
  obtain ⟨v', w', hr, h2, h3, h4⟩ := app_rows_at (P := P) w base t o.type e i z size bytes ht hi hz hsize hby hzs hsz v n xs hown A m c news hl hA h1 h63 hbytes hbase
  unfold Oper.wp execOp
  simp only [ho, resolve, invoke, builtin, Sem.run_bind, Sem.run_pure, Result.andThen_ok, List.map_toArray, List.map_cons, List.map_nil, hs, hx, hr]
  exact hK _ _ (h v' w' h2 h3 h4)
end

/-- A row of another's is written, and perhaps made anew. -/
theorem Dec.otherMore {B b : Nat} {Q Q2 : Nat → Prop} {s : DS} {w w' : World} {row : Option Nat} (h : Dec B Q b s w) (hg : w.grownBy w' row) (hr : ∀ k, row = some k → Q k) (hQ : ∀ q, Q2 q → q < w'.heap.size ∧ (Q q ∨ w.heap.size ≤ q)) : Dec B Q2 b s w' := by
  obtain ⟨p, v, o, h, ho⟩ := h
  have hne : ∀ g, ¬ Q g → some g ≠ row := fun g hq e => hq (hr g e.symm)
  have hv : v.ownBlock = none ∨ v.ownBlock ≠ row := by
    cases hv : v.ownBlock with
    | none => exact .inl rfl
    | some g => exact .inr (hne g (h.qv g hv))
  refine ⟨p, v, o, ⟨⟨h.base.1, fun e => (hQ b e).2.elim h.base.2 (fun e => by have := h.lt; omega)⟩, (hg.block b h.lt (hne b h.base.2)).trans h.blk, h.ptr, h.ownV.kept hg hv, fun q hq => (hQ q hq).1, fun g hgv e => (hQ g e).2.elim (h.qv g hgv) (fun e => by have := (h.ownV.lt g hgv).2; omega)⟩, ?_⟩
  rcases ho with ho | ⟨h1, h2, g, cap, h3, h4, h5, h6⟩
  · exact .inl ho
  · refine .inr ⟨h1, h2, g, cap, h3, h4.kept hg (.inr ?_), h5, fun e => (hQ g e).2.elim h6 (fun e => ?_)⟩
    · rw [h3]
      exact hne g h6
    · have := (h4.lt g (by rw [h3]; rfl)).2
      omega

theorem bytes_nums (l : List UInt8) : bytesV l = nums .u8 (RefIn.ints l) := by
  unfold bytesV nums RefIn.ints
  rw [List.map_map]
  rfl
/-- What has been gathered, as a value: its form. -/
theorem own_form {w : World} {B n : Nat} {v : Value} {l : List UInt8} (h : w.ownsRow B 5 1 v n (bytesV l)) : ∃ A c, v = .slice A n c ∧ n ≤ c ∧ ReadsInt w .u8 A n (RefIn.ints l) := by
  rw [bytes_nums] at h
  obtain ⟨A, c, e, hr⟩ := own_reads h
  refine ⟨A, c, e, ?_, hr⟩
  rcases h.2 with ⟨hv, h0⟩ | ⟨g, cap, cur, hv, _, _, hnc, _⟩
  · omega
  · rw [e] at hv
    injection hv with _ _ hc
    omega
/-- What the document says of what has been gathered. -/
theorem ref_calls {w : World} {A : Option Addr} {n c : Nat} {l : List UInt8} (hn : n = l.length) (hl : l.length ≤ 1048576) (hc : n ≤ c) (hr : ReadsInt w .u8 A n (RefIn.ints l)) :
    Calls Tryd.prog 15 #[.slice A n c] w fun e w' => e = .returned (.string ⟨(decodeL l).toArray⟩) ∧ Below w.heap.size w w' := by
  have hi : n = (RefIn.ints l).length := by rw [RefIn.ints_len]; exact hn
  have hr2 : Kd.C (Kd.int .u8) w A (RefIn.ints l).length (RefIn.ints l) := Kd.C_of_reads (d := (0 : Int)) (h1 := fun _ => rfl) (by rw [← hi]; exact hr)
  subst hi
  exact P.portiereref01_Decode.calls (5 * l.length + 12) (fun k => k < w.heap.size) A c (RefIn.ints l) _ w (Kd.V_mk hc (Kd.C_F (Kd.heap_int .u8) hr2)) (RefIn.ref_of l hl _ (Nat.le_refl _))

/-- What comes in: rows of bytes. -/
structure RowsIn (W : World) (out : Option Addr) (len : Nat) (A : Nat → Option Addr) (C : Nat → Nat) (bs : Nat → List UInt8) : Prop where
  top : 0 < len → ∃ ob oo, out = some ⟨ob, oo, none⟩ ∧ ob < W.heap.size ∧ ∀ r, r < len → W.cell? ⟨ob, oo + r, none⟩ = some (.slice (A r) (bs r).length (C r))
  cap : ∀ r, r < len → (bs r).length ≤ C r
  reach : ∀ r, r < len → (bs r).length ≤ 140737488351232
  row : ∀ r, r < len → 0 < (bs r).length → ∃ ab ao, A r = some ⟨ab, ao, none⟩ ∧ ab < W.heap.size ∧ ∀ j, j < (bs r).length → W.cell? ⟨ab, ao + j, none⟩ = some (.int .u8 ((bs r).getD j 0).toNat)

set_option maxHeartbeats 1600000 in
set_option maxRecDepth 100000 in
theorem parts_calls {out : Option Addr} {len cap : Nat} {A : Nat → Option Addr} {C : Nat → Nat} {bs : Nat → List UInt8} {w : World} (hL : LaidW w) (hR : RowsIn w out len A C bs) (hcap : len ≤ cap) (hlen : len * 24 ≤ 140737488351232) :
    Calls Tryd.prog 6 #[.slice out len cap] w fun e w' => e = .returned (.bool true) ∧ Below w.heap.size w w' := by
  have HL := Aside0.mk hL
  have HR := Aside0.mk hR
  have hl1 : len ≤ 9223372036854775806 := by omega
  clear hL hR hlen
  go_enter Tryd.func6, Tryd.ntmps6
  go_wp2_with fail
  go_loopg [3, 4] len (fun f v3 v4 wr => ∃ (x3 x4 : Int), v3 = .int .i64 x3 ∧ v4 = .int .i64 x4 ∧ Aside0 (∃ j : Nat, x4 = j ∧ j + f = len ∧ x3 = sumW bs j) ∧ Aside0 (wr = w))
  case atStart => exact ⟨0, 0, rfl, rfl, ⟨0, rfl, by omega, rfl⟩, ⟨rfl⟩⟩
  case round =>
    obtain ⟨x3, x4, rfl, rfl, HJ, HW⟩ := hrel
    obtain ⟨j, hj1, hj2, hj3⟩ := HJ.out
    subst hj1
    have hw := HW.out
    subst hw
    clear HW
    by_cases hlt : j < len
    · obtain ⟨ob, oo, rfl, hob, hcell⟩ := HR.out.top (by omega)
      have hc := hcell j hlt
      have hlt' : (j : Int) < (len : Int) := by omega
      have HJ3 := Aside0.mk hj3
      clear hcell hj3 HJ
      go_wp2_with fail
      go_roundg (gk - 1)
      case measure => omega
      case rel => exact ⟨wrap64 (x3 + ((bs j).length : Int)), (j : Int) + 1, (by first | rfl | (simp; done) | (simp [*]; done)), (by first | rfl | go_num | (simp; done)), ⟨j + 1, by omega, by omega, by rw [HJ3.out]; rfl⟩, ⟨rfl⟩⟩
    · have hj : j = len := by omega
      subst hj
      have HS : Aside0 (x3 = sumW bs j) := ⟨hj3⟩
      clear hj3 HJ hj2 hlt
      by_cases hbad : 3000 < x3 ∨ 200 < j
      · have HK := Aside0.mk (known_calls wr HL.out)
        rcases hbad with h1 | h1
        · go_wp2_with (go_at_call 10; refine HK.out.mono ?_; rintro e w1 ⟨rfl, hb⟩)
          go_ret
          exact ⟨rfl, hb⟩
        · by_cases h2 : 3000 < x3
          · clear h1
            go_wp2_with (go_at_call 10; refine HK.out.mono ?_; rintro e w1 ⟨rfl, hb⟩)
            go_ret
            exact ⟨rfl, hb⟩
          · have h1' : (200 : Int) < (j : Int) := by omega
            have h1b : decide (200 < (j : Int)) = true := decide_eq_true h1'
            clear h1'
            go_wp2_with (go_at_call 10; refine HK.out.mono ?_; rintro e w1 ⟨rfl, hb⟩)
            go_ret
            exact ⟨rfl, hb⟩
      · have h1 : ¬ 3000 < x3 := fun h => hbad (.inl h)
        have h2 : decide (200 < (j : Int)) = false := decide_eq_false (by omega)
        have h2' : decide (200 < j) = false := decide_eq_false (by omega)
        have h3 : (catB bs j).length ≤ 3000 := by
          obtain ⟨e1, _⟩ := sum_cat bs j (by omega) HR.out.reach
          have := HS.out
          omega
        have H3 := Aside0.mk h3
        have HK := Aside0.mk (known_calls wr HL.out)
        clear hbad h3
        go_wp2_with (first | (go_at_call 10; refine HK.out.mono ?_; rintro e w1 ⟨rfl, hb1⟩) | (go_at_call 11; refine (new_calls _).mono ?_; rintro e w2 ⟨rfl, hd2, hb2⟩))
        obtain ⟨W0, rfl⟩ : ∃ W0 : World, W0 = wr := ⟨_, rfl⟩
        have HB1 := Aside0.mk hb1
        have HB2 := Aside0.mk hb2
        have HD2 := Aside0.mk hd2
        have HS1 := Aside0.mk (Nat.le_trans HL.out.size hb1.size)
        have HS2 := Aside0.mk hb1.size
        have HS3 := Aside0.mk hb2.size
        clear hb1 hb2 hd2 h1 h2 h2'
        obtain ⟨B, hB⟩ : ∃ B, B = w1.heap.size := ⟨_, rfl⟩
        rw [← hB] at HB2 HD2 HS1 HS2 HS3 ⊢
        have HBw1 := Aside0.mk hB
        clear hB
        go_loopg [6, 7] j (fun f v6 v7 wr => ∃ (x7 : Int) (A6 : Option Addr) (n6 c6 : Nat), v6 = .slice A6 n6 c6 ∧ v7 = .int .i64 x7 ∧ Aside0 (∃ i : Nat, x7 = i ∧ i + f = j ∧ n6 = (catB bs i).length ∧ wr.ownsRow B 5 1 (.slice A6 n6 c6) n6 (bytesV (catB bs i)) ∧ Dec B (fun q => (Value.slice A6 n6 c6).ownBlock = some q) B (feedS newS (catB bs i)) wr ∧ Below B w2 wr))
        case atStart => exact ⟨0, none, 0, 0, rfl, rfl, ⟨0, rfl, by omega, rfl, World.ownsRow_nil _ _ _ _, HD2.out.less (fun q h => by cases h), Below.refl _ _⟩⟩
        case round =>
          obtain ⟨x7, A6, n6, c6, rfl, rfl, HJ⟩ := hrel
          obtain ⟨i, hi1, hi2, hi3, hown, hdec, hbel⟩ := HJ.out
          subst hi1
          clear HJ
          have hcat := Nat.le_trans (cat_mono bs i j (by omega)) H3.out
          have hbw : Below W0.heap.size W0 wr := (HB1.out.trans (by have := HB2.out.mono HS2.out; exact this)).trans (hbel.mono HS2.out)
          have HBw := Aside0.mk hbw
          have hBx : B ≤ wr.heap.size := Nat.le_trans HS3.out (by have := hbel.size; omega)
          have HLx := Aside0.mk (HL.out.below hbw HL.out.size)
          have hgood := Aside0.mk (good_feed (catB bs i) newS good_new)
          have hl0 : newS.out.length = 0 := rfl
          have hl1 : newS.op.length = 0 := rfl
          have HL0 := Aside0.mk hl0
          have HL1 := Aside0.mk hl1
          clear hl0 hl1
          by_cases hlt : i < j
          · obtain ⟨ob, oo, rfl, hob, hcell⟩ := HR.out.top (by omega)
            have hc := (hbw.cell (p := ⟨ob, oo + i, none⟩) hob).trans (hcell i hlt)
            have hlt' : (i : Int) < (j : Int) := by omega
            have hcat1 := Nat.le_trans (cat_mono bs (i + 1) j (by omega)) H3.out
            have hcat2 : (catB bs (i + 1)).length = (catB bs i).length + (bs i).length := by rw [catB, List.length_append]
            have hf := feed_calls (A := A i) (cap := C i) (bs i) hdec hgood.out.1 HLx.out HS1.out hBx (by have := hgood.out.2; have := HL0.out; have := HL1.out; omega)
              (fun h0 => by
                obtain ⟨ab, ao, e, hab, hr⟩ := HR.out.row i hlt h0
                exact ⟨ab, ao, e, .inl (Nat.lt_of_lt_of_le hab HS2.out), fun k hk => (HBw.out.cell (p := ⟨ab, ao + k, none⟩) hab).trans (hr k hk)⟩) (HR.out.cap i hlt)
            have HF := Aside0.mk hf
            have HOwn := Aside0.mk hown
            have HBel := Aside0.mk hbel
            have HC := Aside0.mk hcell
            have HI3 := Aside0.mk hi3
            have HC2 := Aside0.mk hcat2
            clear hf hown hdec hbel hcell hbw hi3 hcat2
            go_wp2_with fail
            refine HF.out.mono ?_
            rintro e w4 ⟨rfl, hd4, hk4⟩
            obtain ⟨i0, hi0, hz0, hz1, hz2⟩ := info_parts byte_info
            have hq6 : ∀ g, (Value.slice A6 n6 c6).ownBlock = some g → g < wr.heap.size := fun g hg => (HOwn.out.lt g hg).2
            have hown4 : w4.ownsRow B 5 1 (.slice A6 n6 c6) n6 (bytesV (catB bs i)) := by
              obtain ⟨q1, q2⟩ := HOwn.out
              refine ⟨q1, ?_⟩
              rcases q2 with q2 | ⟨g, cap', cur, q3, q4, q5, q6⟩
              · exact .inl q2
              · exact .inr ⟨g, cap', cur, q3, q4, (hk4.kept g (by rw [q3]; rfl) (hq6 g (by rw [q3]; rfl))).trans q5, q6⟩
            have HOwn4 := Aside0.mk hown4
            have hbw4 : Below W0.heap.size W0 w4 := HBw.out.trans (hk4.low.mono HS2.out)
            have HBw4 := Aside0.mk hbw4
            have HD4 := Aside0.mk hd4
            have HK4 := Aside0.mk hk4
            have hB4 : B ≤ w4.heap.size := Nat.le_trans hBx hk4.size
            have hA : 0 < (bs i).length → ∃ ad, A i = some ad ∧ ∀ k u, (bytesV (bs i))[k]? = some u → w4.cell? (ad.add k) = some u := fun h0 => by
              obtain ⟨ab, ao, e, hab, hr⟩ := HR.out.row i hlt h0
              refine ⟨_, e, fun k u hu => ?_⟩
              have hk : k < (bs i).length := by
                rcases Nat.lt_or_ge k (bs i).length with h | h
                · exact h
                · rw [List.getElem?_eq_none (by rw [bytesV_length]; exact h)] at hu; cases hu
              have hadd : (⟨ab, ao, none⟩ : Addr).add k = ⟨ab, ao + k, none⟩ := by unfold Addr.add; split <;> simp_all
              rw [hadd, HBw4.out.cell (p := ⟨ab, ao + k, none⟩) hab, hr k hk, ← hu]
              simp [bytesV, List.getElem?_eq_getElem hk, List.getD_eq_getElem?_getD]
            have HA := Aside0.mk hA
            have hc4 : w4.cell? ⟨ob, oo + i, none⟩ = some (.slice (A i) (bs i).length (C i)) := (HBw4.out.cell (p := ⟨ob, oo + i, none⟩) hob).trans (HC.out i hlt)
            have hsz : n6 + (bs i).length ≤ 3000 := by rw [HI3.out, ← HC2.out]; exact hcat1
            clear hown4 hbw4 hd4 hk4 hA hc
            go_wp2_with (at_builtin; refine wpList_app_rows _ rfl _ _ 23 rfl B 5 i0 (.int .u8 0) 1 1 Tryd.underlying23 hi0 hz0 hz1 hz2 rfl (by decide) _ _ _ rfl HOwn4.out (A i) (bs i).length (C i) (bytesV (bs i)) rfl ?c1 HA.out ?c2 ?c3 ?c4 hB4 ?_)
            case c1 => rw [bytesV_length, Nat.mul_one]
            case c2 => intro u hu; simp only [bytesV, List.mem_map] at hu; obtain ⟨c, _, rfl⟩ := hu; rfl
            case c3 => unfold maxLen; omega
            case c4 => omega
            intro v' w5 hown5 hgrow hat
            rw [← bytesV_append] at hown5
            have HC2' := Aside0.mk (show n6 + (bs i).length = (catB bs (i + 1)).length by rw [HI3.out, ← HC2.out])
            obtain ⟨n7, hn7⟩ : ∃ n, n = n6 + (bs i).length := ⟨_, rfl⟩
            rw [← hn7] at hown5 HC2'
            obtain ⟨A7, c7, rfl, hnc, hrd⟩ := own_form hown5
            have hd5 : Dec B (fun q => (Value.slice A7 n7 c7).ownBlock = some q) B (feedS newS (catB bs (i + 1))) w5 := by
              have h := HD4.out
              rw [feed_cat] at h
              exact h.otherMore hgrow (fun k hk => hk) fun q hq => ⟨(hown5.lt q hq).2, (hat q hq).imp id fun h => h⟩
            have hbel5 : Below B w2 w5 := (HBel.out.trans HK4.out.low).grown hgrow hB4 fun k hk => (HOwn4.out.lt k hk).1
            have hL5 : LaidW w5 := HL.out.below ((HB1.out.trans (HB2.out.mono HS2.out)).trans (hbel5.mono HS2.out)) HL.out.size
            have hB5 : B ≤ w5.heap.size := Nat.le_trans hB4 hgrow.size
            have hgood5 := (good_feed (catB bs (i + 1)) newS good_new).2
            have hfin := finish_calls hd5 hL5 HS1.out hB5 (by have := HL0.out; have := HL1.out; omega)
            have HFin := Aside0.mk hfin
            have HOwn5 := Aside0.mk (show w5.ownsRow B 5 1 (.slice A7 n7 c7) n7 (bytesV (catB bs (i + 1))) from hown5)
            have HBel5 := Aside0.mk hbel5
            obtain ⟨O, hO⟩ : ∃ O : ByteArray, O = ⟨(decodeL (catB bs (i + 1))).toArray⟩ := ⟨_, rfl⟩
            have HFin2 : Aside0 (Calls Tryd.prog 13 #[.pointer (some ⟨B, 0, none⟩)] w5 fun e w' => e = .returned (.string O) ∧ Keeps B (fun q => (Value.slice A7 n7 c7).ownBlock = some q) w5 w' ∧ Dec B (fun q => (Value.slice A7 n7 c7).ownBlock = some q) B (feedS newS (catB bs (i + 1))) w') := ⟨by rw [hO]; exact HFin.out⟩
            have HO := Aside0.mk hO
            have HN7 := Aside0.mk hn7
            clear hown5 hgrow hat hn7 hnc hrd hd5 hbel5 hL5 hgood5 hfin HFin hO
            go_wp2_with fail
            refine HFin2.out.mono ?_
            rintro e w6 ⟨rfl, hk6, hd6⟩
            have hown6 : w6.ownsRow B 5 1 (.slice A7 n7 c7) n7 (bytesV (catB bs (i + 1))) := by
              obtain ⟨q1, q2⟩ := HOwn5.out
              refine ⟨q1, ?_⟩
              rcases q2 with q2 | ⟨g, cap', cur, q3, q4, q5, q6⟩
              · exact .inl q2
              · exact .inr ⟨g, cap', cur, q3, q4, (hk6.kept g (by rw [q3]; rfl) (HOwn5.out.lt g (by rw [q3]; rfl)).2).trans q5, q6⟩
            obtain ⟨A8, c8, e8, hnc, hrd⟩ := own_form hown6
            injection e8 with e8 _ e9
            subst e8 e9
            have href := ref_calls HC2'.out (by omega) hnc hrd
            rw [← HO.out] at href
            have HRef := Aside0.mk href
            have HOwn6 := Aside0.mk hown6
            have HBel6 := Aside0.mk (HBel5.out.trans hk6.low)
            have HD6 := Aside0.mk hd6
            have hB6 := Nat.le_trans hB5 hk6.size
            have hne : (O.toList != O.toList) = false := by simp
            clear hown6 hrd href hk6 hd6
            go_wp2_with fail
            refine HRef.out.mono ?_
            rintro e w7 ⟨rfl, hb7⟩
            have HOwn7 := Aside0.mk (pw_own_below HOwn6.out hb7)
            have HD7 := Aside0.mk (HD6.out.below hb7)
            have HBel7 := Aside0.mk (HBel6.out.trans (hb7.mono hB6))
            clear hb7
            go_wp2_with fail
            go_roundg (gk - 1)
            case measure => omega
            case rel => exact ⟨(i : Int) + 1, A7, n7, c7, (by first | rfl | (simp; done)), (by first | rfl | go_num | (simp; done)), ⟨i + 1, by omega, by omega, HC2'.out, HOwn7.out, HD7.out, HBel7.out⟩⟩
          · have hij : i = j := by omega
            subst hij
            have hnlt : ¬ (i : Int) < (i : Int) := by omega
            have hfin := finish_calls hdec HLx.out HS1.out hBx (by have := hgood.out.2; have := HL0.out; have := HL1.out; omega)
            obtain ⟨O, hO⟩ : ∃ O : ByteArray, O = ⟨(decodeL (catB bs i)).toArray⟩ := ⟨_, rfl⟩
            have HFin2 : Aside0 (Calls Tryd.prog 13 #[.pointer (some ⟨B, 0, none⟩)] wr fun e w' => e = .returned (.string O) ∧ Keeps B (fun q => (Value.slice A6 n6 c6).ownBlock = some q) wr w' ∧ Dec B (fun q => (Value.slice A6 n6 c6).ownBlock = some q) B (feedS newS (catB bs i)) w') := ⟨by rw [hO]; exact hfin⟩
            have HOwn := Aside0.mk hown
            have HI3 := Aside0.mk hi3
            have HO := Aside0.mk hO
            clear hown hdec hbel hbw hi3 hfin hO hlt hi2
            go_wp2_with fail
            refine HFin2.out.mono ?_
            rintro e w6 ⟨rfl, hk6, _⟩
            have hown6 : w6.ownsRow B 5 1 (.slice A6 n6 c6) n6 (bytesV (catB bs i)) := by
              obtain ⟨q1, q2⟩ := HOwn.out
              refine ⟨q1, ?_⟩
              rcases q2 with q2 | ⟨g, cap', cur, q3, q4, q5, q6⟩
              · exact .inl q2
              · exact .inr ⟨g, cap', cur, q3, q4, (hk6.kept g (by rw [q3]; rfl) (HOwn.out.lt g (by rw [q3]; rfl)).2).trans q5, q6⟩
            obtain ⟨A8, c8, e8, hnc, hrd⟩ := own_form hown6
            injection e8 with e8 _ e9
            subst e8 e9
            have href := ref_calls HI3.out (by omega) hnc hrd
            rw [← HO.out] at href
            have HRef := Aside0.mk href
            have HB6 := Aside0.mk (HBw.out.trans (hk6.low.mono HS2.out))
            have heq : (O.toList == O.toList) = true := by simp
            clear hown6 hrd href hk6
            go_wp2_with fail
            refine HRef.out.mono ?_
            rintro e w7 ⟨rfl, hb7⟩
            have HB7 := Aside0.mk (HB6.out.trans (hb7.mono HB6.out.size))
            clear hb7
            go_wp2_with fail
            go_ret
            exact ⟨rfl, HB7.out⟩
end Go.Proofs.YtoejbjmdcokojaaDoor.Hand
