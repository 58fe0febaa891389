/- By hand: the trie that is built, and what a look into it finds. -/
import Derived.Test.YtebcdfdkgjcmmaaEscWrite
namespace Go.Proofs.Ytebcdfdkgjcmmaa.Hand
set_option linter.unusedVariables false
set_option linter.unusedSimpArgs false
open Go Go.RowKit Go.Proofs.YtebcdfdkgjcmmaaW.PrintWords

def leafF (val : ByteArray) (prio : Int) : Nat → Value
  | 0 => .string val
  | 1 => .int .i64 prio
  | 2 => .string ⟨#[]⟩
  | 3 => .pointer none
  | _ => .slice none 0 0
def stemF (q : Nat) : Nat → Value
  | 0 => .string ⟨#[]⟩
  | 1 => .int .i64 0
  | 2 => .string ⟨#[160]⟩
  | 3 => .pointer (some ⟨q, 0, none⟩)
  | _ => .slice none 0 0

theorem isEmpty_size (s : ByteArray) : s.toList.isEmpty = decide (s.size = 0) := by
  rw [ByteArray.toList_eq]
  have : s.size = s.data.toList.length := by rw [Array.length_toList]; rfl
  rw [this]
  cases s.data.toList <;> simp

set_option maxRecDepth 100000 in
theorem hasPrefix_yes (s : ByteArray) (w : World) (hs : 0 < s.size) (hs2 : s.size ≤ 140737488355328) (h : s.extract 0 1 = ⟨#[160]⟩) :
    Calls Try.prog 49 #[.string s, .string ⟨#[160]⟩] w fun e w' => e = .returned (.bool true) ∧ w' = w := by
  have h1 : (1 : Int) ≤ s.size := by omega
  go_enter Try.func49, Try.ntmps49
  go_wp2
  go_ret
  exact ⟨rfl, rfl⟩
set_option maxRecDepth 100000 in
theorem hasPrefix_no (s : ByteArray) (w : World) (hs2 : s.size ≤ 140737488355328) (h : ¬ (s.extract 0 1 = ⟨#[160]⟩)) :
    Calls Try.prog 49 #[.string s, .string ⟨#[160]⟩] w fun e w' => e = .returned (.bool false) ∧ w' = w := by
  have hf : ((s.extract 0 1).toList == [160]) = false := by
    rw [ByteArray.toList_eq, beq_eq_false_iff_ne]
    intro h2
    apply h
    have h3 : (s.extract 0 1).data = #[160] := Array.toList_inj.1 h2
    rw [← h3]
  by_cases h1 : (1 : Int) ≤ s.size
  · go_enter Try.func49, Try.ntmps49
    go_wp2
    go_ret
    exact ⟨rfl, rfl⟩
  · go_enter Try.func49, Try.ntmps49
    go_wp2
    go_ret
    exact ⟨rfl, rfl⟩

theorem slice_ne_nil (a : Addr) (n c : Nat) (w : World) : (binOp .neq 82 (.slice (some a) n c) (.slice none 0 0)).run Try.prog w = .ok (.bool true) w := by kernel_rfl
theorem slice_nil_nil (w : World) : (binOp .neq 82 (.slice none 0 0) (.slice none 0 0)).run Try.prog w = .ok (.bool false) w := by kernel_rfl
theorem ptr_nil_eq (a : Addr) (w : World) : (binOp .eql 81 (.pointer (some a)) (.pointer none)).run Try.prog w = .ok (.bool false) w := by kernel_rfl

set_option maxHeartbeats 2000000 in
set_option maxRecDepth 100000 in
theorem look_empty (G T n : Nat) (w : World) (g1 : w.cell? ⟨G, 1, none⟩ = some (.int .i64 0)) :
    Calls Try.prog 87 #[.pointer (some ⟨G, 0, none⟩), .string ⟨#[]⟩, .bool false] w fun e w' => e = .returned (.tuple #[.string ⟨#[]⟩, .int .i64 0, .bool false]) ∧ w' = w := by
  have hnot : ∀ (x : Bool) (w : World), (Op.unary .not (.bool x)).run Try.prog w = .ok (.bool (!x)) w := fun _ _ => rfl
  go_enter Try.func87, Try.ntmps87
  go_wp2_with fail
  go_loopg [1, 6, 7, 8, 9, 10, 11] 0 (fun k s val kl fd bp nd n wr => wr = w ∧ s = .string ⟨#[]⟩ ∧ val = .string ⟨#[]⟩ ∧ kl = .int .i64 0 ∧ fd = .bool false ∧ bp = .int .i64 0 ∧ nd = .pointer (some ⟨G, 0, none⟩) ∧ n = .int .i64 0)
  case atStart => exact ⟨rfl, rfl, rfl, rfl, rfl, rfl, rfl, rfl⟩
  case round =>
    obtain ⟨rfl, rfl, rfl, rfl, rfl, rfl, rfl, rfl⟩ := hrel
    go_wp2
    go_ret3
    exact ⟨rfl, rfl⟩

set_option maxHeartbeats 2000000 in
set_option maxRecDepth 100000 in
theorem look_leaf (G T a n m : Nat) (v : ByteArray) (p : Int) (s : ByteArray) (w : World) (hs : 0 < s.size) (hs2 : s.size ≤ 140737488355328) (hm : m < n) (hn : n < 100) (hp : 0 < p)
    (g1 : w.cell? ⟨G, 1, none⟩ = some (.int .i64 0)) (g4 : w.cell? ⟨G, 4, none⟩ = some (.slice (some ⟨T, 0, none⟩) n n)) (g5 : w.cell? ⟨G, 5, none⟩ = some (.int .i64 n))
    (gm : w.cell? ⟨G, 6 + (s[0]'hs).toNat, none⟩ = some (.int .u8 m)) (gt : w.cell? ⟨T, m, none⟩ = some (.pointer (some ⟨a, 0, none⟩)))
    (ga : w.rowIs a 84 5 (leafF v p)) :
    Calls Try.prog 87 #[.pointer (some ⟨G, 0, none⟩), .string s, .bool false] w fun e w' => e = .returned (.tuple #[.string v, .int .i64 1, .bool true]) ∧ ∃ m, w' = w.drewN m := by
  have hnot : ∀ (x : Bool) (w : World), (Op.unary .not (.bool x)).run Try.prog w = .ok (.bool (!x)) w := fun _ _ => rfl
  have hsn := slice_ne_nil
  have hsn2 := slice_nil_nil
  have a0 : w.cell? ⟨a, 0, none⟩ = some (.string v) := ga.cell (i := 0) (by omega)
  have a1 : w.cell? ⟨a, 1, none⟩ = some (.int .i64 p) := ga.cell (i := 1) (by omega)
  have a2 : w.cell? ⟨a, 2, none⟩ = some (.string ⟨#[]⟩) := ga.cell (i := 2) (by omega)
  have a4 : w.cell? ⟨a, 4, none⟩ = some (.slice none 0 0) := ga.cell (i := 4) (by omega)
  clear ga
  go_enter Try.func87, Try.ntmps87
  go_wp2_with fail
  go_loopg [1, 6, 7, 8, 9, 10, 11] 1 (fun k s' val kl fd bp nd n' wr => (∃ d, wr = w.drewN d) ∧ val = .string ⟨#[]⟩ ∧ kl = .int .i64 0 ∧ fd = .bool false ∧ bp = .int .i64 0 ∧
    ((k = 1 ∧ s' = .string s ∧ nd = .pointer (some ⟨G, 0, none⟩) ∧ n' = .int .i64 0) ∨ (k = 0 ∧ s' = .string (s.extract 1 s.size) ∧ nd = .pointer (some ⟨a, 0, none⟩) ∧ n' = .int .i64 1)))
  case atStart => exact ⟨⟨0, rfl⟩, rfl, rfl, rfl, rfl, .inl ⟨rfl, rfl, rfl, rfl⟩⟩
  case round =>
    obtain ⟨⟨d, rfl⟩, rfl, rfl, rfl, rfl, h⟩ := hrel
    rcases h with ⟨rfl, rfl, rfl, rfl⟩ | ⟨rfl, rfl, rfl, rfl⟩
    · have hne : s.toList.isEmpty = false := by rw [isEmpty_size, decide_eq_false_iff_not]; omega
      have hmn : ¬ (m : Int) = n := by omega
      have hb : ((s[0]'hs).toNat : Int) < 256 := by have := (s[0]'hs).toNat_lt; omega
      have hb2 : (s[0]'hs).toNat < 256 := (s[0]'hs).toNat_lt
      have hb0 : (0 : Int) ≤ (s[0]'hs).toNat := by omega
      have hmn' : (m : Int) < n := by omega
      go_wp2
      go_quiet (fail)
      go_wp2
      go_roundg 0
      case measure => omega
      case rel => exact ⟨⟨_, rfl⟩, rfl, rfl, rfl, rfl, .inr ⟨rfl, rfl, rfl, rfl⟩⟩
    · go_wp2
      all_goals go_ret3
      all_goals exact ⟨rfl, _, rfl⟩

set_option maxHeartbeats 2000000 in
set_option maxRecDepth 100000 in
theorem look_stem_hit (G T a b n m : Nat) (v : ByteArray) (p : Int) (s : ByteArray) (w : World) (hs : 0 < s.size) (hs2 : s.size ≤ 140737488355328) (hm : m < n) (hn : n < 100) (hp : 0 < p) (hs3 : 1 < s.size) (h160 : (s.extract 1 s.size).extract 0 1 = ⟨#[160]⟩)
    (g1 : w.cell? ⟨G, 1, none⟩ = some (.int .i64 0)) (g4 : w.cell? ⟨G, 4, none⟩ = some (.slice (some ⟨T, 0, none⟩) n n)) (g5 : w.cell? ⟨G, 5, none⟩ = some (.int .i64 n))
    (gm : w.cell? ⟨G, 6 + (s[0]'hs).toNat, none⟩ = some (.int .u8 m)) (gt : w.cell? ⟨T, m, none⟩ = some (.pointer (some ⟨a, 0, none⟩)))
    (ga : w.rowIs a 84 5 (stemF b)) (gb : w.rowIs b 84 5 (leafF v p)) :
    Calls Try.prog 87 #[.pointer (some ⟨G, 0, none⟩), .string s, .bool false] w fun e w' => e = .returned (.tuple #[.string v, .int .i64 2, .bool true]) ∧ ∃ m, w' = w.drewN m := by
  have hnot : ∀ (x : Bool) (w : World), (Op.unary .not (.bool x)).run Try.prog w = .ok (.bool (!x)) w := fun _ _ => rfl
  have hsn := slice_ne_nil
  have hsn2 := slice_nil_nil
  have a0 : w.cell? ⟨a, 0, none⟩ = some (.string ⟨#[]⟩) := ga.cell (i := 0) (by omega)
  have a1 : w.cell? ⟨a, 1, none⟩ = some (.int .i64 0) := ga.cell (i := 1) (by omega)
  have a2 : w.cell? ⟨a, 2, none⟩ = some (.string ⟨#[160]⟩) := ga.cell (i := 2) (by omega)
  have a3 : w.cell? ⟨a, 3, none⟩ = some (.pointer (some ⟨b, 0, none⟩)) := ga.cell (i := 3) (by omega)
  have a4 : w.cell? ⟨a, 4, none⟩ = some (.slice none 0 0) := ga.cell (i := 4) (by omega)
  clear ga
  have b0 : w.cell? ⟨b, 0, none⟩ = some (.string v) := gb.cell (i := 0) (by omega)
  have b1 : w.cell? ⟨b, 1, none⟩ = some (.int .i64 p) := gb.cell (i := 1) (by omega)
  have b2 : w.cell? ⟨b, 2, none⟩ = some (.string ⟨#[]⟩) := gb.cell (i := 2) (by omega)
  have b4 : w.cell? ⟨b, 4, none⟩ = some (.slice none 0 0) := gb.cell (i := 4) (by omega)
  clear gb
  obtain ⟨s1, hs1⟩ : ∃ s1 : ByteArray, s1 = s.extract 1 s.size := ⟨_, rfl⟩
  have hz1 : s1.size = s.size - 1 := by rw [hs1, ByteArray.size_extract]; omega
  rw [← hs1] at h160
  go_enter Try.func87, Try.ntmps87
  go_wp2_with fail
  go_loopg [1, 6, 7, 8, 9, 10, 11] 2 (fun k s' val kl fd bp nd n' wr => (∃ d, wr = w.drewN d) ∧ val = .string ⟨#[]⟩ ∧ kl = .int .i64 0 ∧ fd = .bool false ∧ bp = .int .i64 0 ∧
    ((k = 2 ∧ s' = .string s ∧ nd = .pointer (some ⟨G, 0, none⟩) ∧ n' = .int .i64 0) ∨ (k = 1 ∧ s' = .string s1 ∧ nd = .pointer (some ⟨a, 0, none⟩) ∧ n' = .int .i64 1) ∨ (k = 0 ∧ s' = .string (s1.extract 1 s1.size) ∧ nd = .pointer (some ⟨b, 0, none⟩) ∧ n' = .int .i64 2)))
  case atStart => exact ⟨⟨0, rfl⟩, rfl, rfl, rfl, rfl, .inl ⟨rfl, rfl, rfl, rfl⟩⟩
  case round =>
    obtain ⟨⟨d, rfl⟩, rfl, rfl, rfl, rfl, h⟩ := hrel
    rcases h with ⟨rfl, rfl, rfl, rfl⟩ | ⟨rfl, rfl, rfl, rfl⟩ | ⟨rfl, rfl, rfl, rfl⟩
    · have hne : s.toList.isEmpty = false := by rw [isEmpty_size, decide_eq_false_iff_not]; omega
      have hmn : ¬ (m : Int) = n := by omega
      have hb : ((s[0]'hs).toNat : Int) < 256 := by have := (s[0]'hs).toNat_lt; omega
      have hb2 : (s[0]'hs).toNat < 256 := (s[0]'hs).toNat_lt
      have hb0 : (0 : Int) ≤ (s[0]'hs).toNat := by omega
      have hmn' : (m : Int) < n := by omega
      go_wp2
      go_quiet (fail)
      go_wp2
      go_roundg 1
      case measure => omega
      case rel => exact ⟨⟨_, rfl⟩, rfl, rfl, rfl, rfl, .inr (.inl ⟨rfl, by rw [hs1], rfl, rfl⟩)⟩
    · have hne : s1.toList.isEmpty = false := by rw [isEmpty_size, decide_eq_false_iff_not]; omega
      have hl : (1 : Int) ≤ s1.size := by omega
      clear hs1
      go_wp2_with (go_at_call 49; refine (hasPrefix_yes s1 _ (by omega) (by omega) h160).mono ?_; rintro e w1 ⟨rfl, rfl⟩)
      go_roundg 0
      case measure => omega
      case rel => exact ⟨⟨_, rfl⟩, rfl, rfl, rfl, rfl, .inr (.inr ⟨rfl, by rw [hz1], rfl, rfl⟩)⟩
    · clear hs1 h160
      go_wp2
      all_goals go_ret3
      all_goals exact ⟨rfl, _, rfl⟩

set_option maxHeartbeats 2000000 in
set_option maxRecDepth 100000 in
theorem look_stem_miss (G T a b n m : Nat) (s : ByteArray) (w : World) (hs : 0 < s.size) (hs2 : s.size ≤ 140737488355328) (hm : m < n) (hn : n < 100) (h160 : ¬ ((s.extract 1 s.size).extract 0 1 = ⟨#[160]⟩))
    (g1 : w.cell? ⟨G, 1, none⟩ = some (.int .i64 0)) (g4 : w.cell? ⟨G, 4, none⟩ = some (.slice (some ⟨T, 0, none⟩) n n)) (g5 : w.cell? ⟨G, 5, none⟩ = some (.int .i64 n))
    (gm : w.cell? ⟨G, 6 + (s[0]'hs).toNat, none⟩ = some (.int .u8 m)) (gt : w.cell? ⟨T, m, none⟩ = some (.pointer (some ⟨a, 0, none⟩)))
    (ga : w.rowIs a 84 5 (stemF b)) :
    Calls Try.prog 87 #[.pointer (some ⟨G, 0, none⟩), .string s, .bool false] w fun e w' => e = .returned (.tuple #[.string ⟨#[]⟩, .int .i64 0, .bool false]) ∧ ∃ m, w' = w.drewN m := by
  have hnot : ∀ (x : Bool) (w : World), (Op.unary .not (.bool x)).run Try.prog w = .ok (.bool (!x)) w := fun _ _ => rfl
  have hsn := slice_ne_nil
  have hsn2 := slice_nil_nil
  have a0 : w.cell? ⟨a, 0, none⟩ = some (.string ⟨#[]⟩) := ga.cell (i := 0) (by omega)
  have a1 : w.cell? ⟨a, 1, none⟩ = some (.int .i64 0) := ga.cell (i := 1) (by omega)
  have a2 : w.cell? ⟨a, 2, none⟩ = some (.string ⟨#[160]⟩) := ga.cell (i := 2) (by omega)
  have a3 : w.cell? ⟨a, 3, none⟩ = some (.pointer (some ⟨b, 0, none⟩)) := ga.cell (i := 3) (by omega)
  have a4 : w.cell? ⟨a, 4, none⟩ = some (.slice none 0 0) := ga.cell (i := 4) (by omega)
  clear ga
  obtain ⟨s1, hs1⟩ : ∃ s1 : ByteArray, s1 = s.extract 1 s.size := ⟨_, rfl⟩
  have hz1 : s1.size = s.size - 1 := by rw [hs1, ByteArray.size_extract]; omega
  rw [← hs1] at h160
  go_enter Try.func87, Try.ntmps87
  go_wp2_with fail
  go_loopg [1, 6, 7, 8, 9, 10, 11] 1 (fun k s' val kl fd bp nd n' wr => (∃ d, wr = w.drewN d) ∧ val = .string ⟨#[]⟩ ∧ kl = .int .i64 0 ∧ fd = .bool false ∧ bp = .int .i64 0 ∧
    ((k = 1 ∧ s' = .string s ∧ nd = .pointer (some ⟨G, 0, none⟩) ∧ n' = .int .i64 0) ∨ (k = 0 ∧ s' = .string s1 ∧ nd = .pointer (some ⟨a, 0, none⟩) ∧ n' = .int .i64 1)))
  case atStart => exact ⟨⟨0, rfl⟩, rfl, rfl, rfl, rfl, .inl ⟨rfl, rfl, rfl, rfl⟩⟩
  case round =>
    obtain ⟨⟨d, rfl⟩, rfl, rfl, rfl, rfl, h⟩ := hrel
    rcases h with ⟨rfl, rfl, rfl, rfl⟩ | ⟨rfl, rfl, rfl, rfl⟩
    · have hne : s.toList.isEmpty = false := by rw [isEmpty_size, decide_eq_false_iff_not]; omega
      have hmn : ¬ (m : Int) = n := by omega
      have hb : ((s[0]'hs).toNat : Int) < 256 := by have := (s[0]'hs).toNat_lt; omega
      have hb2 : (s[0]'hs).toNat < 256 := (s[0]'hs).toNat_lt
      have hb0 : (0 : Int) ≤ (s[0]'hs).toNat := by omega
      have hmn' : (m : Int) < n := by omega
      go_wp2
      go_quiet (fail)
      go_wp2
      go_roundg 0
      case measure => omega
      case rel => exact ⟨⟨_, rfl⟩, rfl, rfl, rfl, rfl, .inr ⟨rfl, by rw [hs1], rfl, rfl⟩⟩
    · clear hs1
      go_wp2_with (go_at_call 49; refine (hasPrefix_no s1 _ (by omega) h160).mono ?_; rintro e w1 ⟨rfl, rfl⟩)
      all_goals go_ret3
      all_goals exact ⟨rfl, _, rfl⟩
end Go.Proofs.Ytebcdfdkgjcmmaa.Hand
