/- By hand: what Text and Value answer. -/
import Derived.Test.YtebcdfdkgjcmmaaEscBuild
namespace Go.Proofs.Ytebcdfdkgjcmmaa.Hand
set_option linter.unusedVariables false
set_option linter.unusedSimpArgs false
open Go Go.RowKit Go.Proofs.YtebcdfdkgjcmmaaW.PrintWords

theorem str_info : (Try.prog.info? 9).map (fun i => (i.zero, i.size, i.bytes)) = some (some (.string ⟨#[]⟩), 1, 16) := by kernel_rfl
def pairsV : List Value := [.string ⟨#[38]⟩, .string ampB, .string ⟨#[60]⟩, .string ltB, .string ⟨#[62]⟩, .string gtB, .string ⟨#[194, 160]⟩, .string nbspB]
def oldsV (q : Bool) : List Value := pairsV ++ (if q = true then [.string ⟨#[34]⟩, .string quotB] else [])
theorem oldsV_length (q : Bool) : (oldsV q).length = 2 * kn q := by cases q <;> rfl
theorem oldsV_one (q : Bool) : ∀ u ∈ oldsV q, u.oneCell' = true := by
  intro u hu
  cases q <;> (simp [oldsV, pairsV] at hu; rcases hu with rfl | rfl | rfl | rfl | rfl | rfl | rfl | rfl | rfl | rfl) <;> rfl
def OldsL (q : Bool) (S : Nat) (w : World) : Prop := ∀ j u, (oldsV q)[j]? = some u → w.cell? ⟨S, j, none⟩ = some u
theorem olds_of {q : Bool} {S : Nat} {w : World} (h : OldsL q S w) : Olds q S w := by
  intro k hk
  cases q
  · match k, hk with
    | 0, _ => exact ⟨h 0 _ rfl, h 1 _ rfl⟩
    | 1, _ => exact ⟨h 2 _ rfl, h 3 _ rfl⟩
    | 2, _ => exact ⟨h 4 _ rfl, h 5 _ rfl⟩
    | 3, _ => exact ⟨h 6 _ rfl, h 7 _ rfl⟩
    | k + 4, h => unfold kn at h; simp at h; omega
  · match k, hk with
    | 0, _ => exact ⟨h 0 _ rfl, h 1 _ rfl⟩
    | 1, _ => exact ⟨h 2 _ rfl, h 3 _ rfl⟩
    | 2, _ => exact ⟨h 4 _ rfl, h 5 _ rfl⟩
    | 3, _ => exact ⟨h 6 _ rfl, h 7 _ rfl⟩
    | 4, _ => exact ⟨h 8 _ rfl, h 9 _ rfl⟩
    | k + 5, h => unfold kn at h; simp at h; omega
theorem owned_slice {w : World} {B n : Nat} {v : Value} {xs : List Value} (h : w.ownsRow B 9 1 v n xs) (hn : 0 < n) :
    ∃ g cap, v = .slice (some ⟨g, 0, none⟩) n cap ∧ B ≤ g ∧ g < w.heap.size ∧ n ≤ cap ∧ ∀ j u, xs[j]? = some u → w.cell? ⟨g, j, none⟩ = some u := by
  rcases h.2 with ⟨_, h0⟩ | ⟨g, cap, cur, hv, hg1, hg2, hg3, hg4, hg5, hg6⟩
  · omega
  · refine ⟨g, cap, hv, hg1, (h.lt g (by rw [hv]; rfl)).2, hg3, fun j u hu => ?_⟩
    have := h.cells (g := g) (by rw [hv]; rfl) j u hu
    rw [Addr.add_mid, Nat.zero_add] at this
    exact this

set_option maxHeartbeats 800000 in
set_option maxRecDepth 100000 in
theorem new_rep (q : Bool) (S cap : Nat) (w : World) (hk : OldsL q S w) :
    Calls Try.prog 18 #[.slice (some ⟨S, 0, none⟩) (2 * kn q) cap] w fun e w' => ∃ b S' cap' f, e = .returned (.pointer (some ⟨b, 0, none⟩)) ∧ w'.rowIs b 49 5 f ∧ f 0 = .int .u32 0 ∧ f 1 = .int .i32 0 ∧ f 3 = .nilIface ∧
      f 4 = .slice (some ⟨S', 0, none⟩) (2 * kn q) cap' ∧ S' < w'.heap.size ∧ 2 * kn q ≤ cap' ∧ OldsL q S' w' ∧ S' ≠ b ∧ w.heap.size ≤ b ∧ Below w.heap.size w w' := by
  obtain ⟨i0, hi, hz0, hz1, hz2⟩ := info_parts str_info
  have hlen := oldsV_length q
  have hkn : kn q = 4 ∨ kn q = 5 := by unfold kn; split <;> simp
  obtain ⟨L, hL⟩ : ∃ L, L = 2 * kn q := ⟨_, rfl⟩
  rw [← hL] at hlen ⊢
  have hmod : (L : Int) % 2 = 0 := by omega
  have hL10 : L ≤ 10 := by omega
  have hL0 : 0 < L := by omega
  clear hL hkn
  go_enter Try.func18, Try.ntmps18
  go_wp2_with (at_builtin; refine wpList_append_own _ rfl _ _ 32 rfl w.heap.size 9 i0 (.string ⟨#[]⟩) 1 16 Try.underlying32 hi hz0 hz1 hz2 rfl (by decide) (.slice none 0 0) 0 [] rfl (World.ownsRow_nil _ _ _ _) ⟨S, 0, none⟩ L cap (oldsV q) rfl ?c0 ?c1 (oldsV_one q) ?c3 ?c4 (Nat.le_refl _) ?_)
  case c0 => rw [hlen, Nat.mul_one]
  case c1 => intro j u hj; rw [Addr.add_mid, Nat.zero_add]; exact hk j u hj
  case c3 => unfold maxLen; omega
  case c4 => omega
  intro v' w1 hown hgrow _
  obtain ⟨g, cap', rfl, hg1, hg2, hg3, hg4⟩ := owned_slice hown hL0
  have HB : Aside0 (Below w.heap.size w w1) := ⟨(Below.refl _ w).grown hgrow (Nat.le_refl _) (fun k hk => by simp [Value.ownBlock] at hk)⟩
  have HG := Aside0.mk hg4
  clear hown hgrow hg4
  have hrow : Aside0 ((w1.alloc (.cells #[.int .u32 0, .int .i32 0, .int .u32 0, .nilIface, .slice (some ⟨g, 0, none⟩) L cap'] 49)).rowIs w1.heap.size 49 5 (fun j => #[.int .u32 0, .int .i32 0, .int .u32 0, .nilIface, .slice (some ⟨g, 0, none⟩) L cap'].getD j undef)) := ⟨by
    refine World.rowIs_alloc w1 _ 49 _ (fun i hi => ?_)
    have : i < 5 := hi
    match i, this with
    | 0, _ => rfl
    | 1, _ => rfl
    | 2, _ => rfl
    | 3, _ => rfl
    | 4, _ => rfl⟩
  have HB2 : Aside0 (Below w.heap.size w (w1.alloc (.cells #[.int .u32 0, .int .i32 0, .int .u32 0, .nilIface, .slice (some ⟨g, 0, none⟩) L cap'] 49))) := ⟨HB.out.alloc HB.out.size _⟩
  have HO : Aside0 (OldsL q g (w1.alloc (.cells #[.int .u32 0, .int .i32 0, .int .u32 0, .nilIface, .slice (some ⟨g, 0, none⟩) L cap'] 49))) := ⟨fun j u hu => (World.cell?_alloc_past _ _ _ hg2).trans (HG.out j u hu)⟩
  have hsz := HB.out.size
  go_wp2
  go_ret
  exact ⟨w1.heap.size, g, cap', _, rfl, hrow.out, rfl, rfl, rfl, rfl, by simp; omega, hg3, HO.out, by omega, hsz, HB2.out⟩

def WriterPost (q : Bool) (w : World) (e : Ending) (w' : World) : Prop :=
  ∃ b S' cap' f, e = .returned (.pointer (some ⟨b, 0, none⟩)) ∧ w'.rowIs b 49 5 f ∧ f 0 = .int .u32 0 ∧ f 1 = .int .i32 0 ∧ f 3 = .nilIface ∧
      f 4 = .slice (some ⟨S', 0, none⟩) (2 * kn q) cap' ∧ S' < w'.heap.size ∧ 2 * kn q ≤ cap' ∧ OldsL q S' w' ∧ S' ≠ b ∧ w.heap.size ≤ b ∧ Below w.heap.size w w'
theorem olds_alloc (w : World) : OldsL false w.heap.size (w.alloc (.cells #[.string ⟨#[38]⟩, .string ⟨#[38, 97, 109, 112, 59]⟩, .string ⟨#[60]⟩, .string ⟨#[38, 108, 116, 59]⟩, .string ⟨#[62]⟩, .string ⟨#[38, 103, 116, 59]⟩, .string ⟨#[194, 160]⟩, .string ⟨#[38, 110, 98, 115, 112, 59]⟩] 9)) := by
  intro j u hu
  rw [World.cell?_alloc_new, ← Array.getElem?_toList]
  exact hu

def P8 : Array Value := #[.string ⟨#[38]⟩, .string ⟨#[38, 97, 109, 112, 59]⟩, .string ⟨#[60]⟩, .string ⟨#[38, 108, 116, 59]⟩, .string ⟨#[62]⟩, .string ⟨#[38, 103, 116, 59]⟩, .string ⟨#[194, 160]⟩, .string ⟨#[38, 110, 98, 115, 112, 59]⟩]
set_option maxHeartbeats 800000 in
set_option maxRecDepth 100000 in
theorem writer_text (w : World) : Calls Try.prog 14 #[.slice none 0 0] w (WriterPost false w) := by
  have hn := new_rep false w.heap.size 8 _ (olds_alloc w)
  rw [show 2 * kn false = 8 from rfl] at hn
  have HN := Aside0.mk hn
  clear hn
  go_enter Try.func14, Try.ntmps14
  go_wp2_with (go_at_call 19; go_in)
  refine HN.out.mono ?_
  rintro e w1 ⟨b, S', cap', f, rfl, k0, k1, k2, k3, k4, k5, k6, k7, k8, k9, k10⟩
  have HP : Aside0 (∃ f, w1.rowIs b 49 5 f ∧ f 0 = .int .u32 0 ∧ f 1 = .int .i32 0 ∧ f 3 = .nilIface ∧
      f 4 = .slice (some ⟨S', 0, none⟩) (2 * kn false) cap' ∧ S' < w1.heap.size ∧ 2 * kn false ≤ cap' ∧ OldsL false S' w1 ∧ S' ≠ b ∧ w.heap.size ≤ b ∧ Below w.heap.size w w1) := ⟨by
    rw [World.size_alloc] at k9 k10
    exact ⟨f, k0, k1, k2, k3, k4, k5, k6, k7, k8, by omega, (below_alloc (Below.refl w.heap.size w) _).trans (k10.mono (by omega))⟩⟩
  clear k0 k1 k2 k3 k4 k5 k6 k7 k8 k9 k10
  go_wp2
  go_ret
  obtain ⟨f, hf⟩ := HP.out
  exact ⟨b, S', cap', f, rfl, hf⟩

def moreV : List Value := [.string ⟨#[34]⟩, .string quotB]
set_option maxHeartbeats 800000 in
set_option maxRecDepth 100000 in
theorem writer_value (M : Nat) (w : World) (hM : ∀ j u, moreV[j]? = some u → w.cell? ⟨M, j, none⟩ = some u) (hMl : M < w.heap.size) : Calls Try.prog 14 #[.slice (some ⟨M, 0, none⟩) 2 2] w (WriterPost true w) := by
  obtain ⟨i0, hi, hz0, hz1, hz2⟩ := info_parts str_info
  have HO : Aside0 ((w.alloc (.cells P8 9)).ownsRow w.heap.size 9 1 (.slice (some ⟨w.heap.size, 0, none⟩) 8 8) 8 pairsV) := ⟨World.ownsRow_lit w P8 8 (Nat.le_refl _) (by unfold maxLen; omega) rfl⟩
  have HMo := Aside0.mk hM
  clear hM
  go_enter Try.func14, Try.ntmps14
  go_wp2_with (first | (go_at_call 19; go_in) | (at_builtin; refine wpList_append_own _ rfl _ _ 32 rfl w.heap.size 9 i0 (.string ⟨#[]⟩) 1 16 Try.underlying32 hi hz0 hz1 hz2 rfl (by decide) (.slice (some ⟨w.heap.size, 0, none⟩) 8 8) 8 pairsV rfl HO.out ⟨M, 0, none⟩ 2 2 moreV rfl rfl ?c1 ?c2 ?c3 (by omega) ?c5 ?_))
  case c1 => intro j u hj; rw [Addr.add_mid, Nat.zero_add]; exact (World.cell?_alloc_past _ _ _ hMl).trans (HMo.out j u hj)
  case c2 => intro u hu; simp [moreV] at hu; rcases hu with rfl | rfl <;> rfl
  case c3 => unfold maxLen; omega
  case c5 => simp
  intro v' w1 hown hgrow _
  obtain ⟨g, cap', rfl, hg1, hg2, hg3, hg4⟩ := owned_slice hown (by omega)
  have hB1 : Below w.heap.size w w1 := (below_alloc (Below.refl w.heap.size w) (.cells P8 9)).grown hgrow (by simp) (fun k hk => by simp [Value.ownBlock] at hk; omega)
  have hn := new_rep true g cap' w1 hg4
  rw [show 2 * kn true = 8 + 2 from rfl] at hn
  have HN := Aside0.mk hn
  have HB1 := Aside0.mk hB1
  have hs1 := hB1.size
  clear hn hown hgrow hg4 hB1
  go_wp2_with fail
  refine HN.out.mono ?_
  rintro e w2 ⟨b, S', cap', f, rfl, k0, k1, k2, k3, k4, k5, k6, k7, k8, k9, k10⟩
  have HP : Aside0 (∃ f, w2.rowIs b 49 5 f ∧ f 0 = .int .u32 0 ∧ f 1 = .int .i32 0 ∧ f 3 = .nilIface ∧
      f 4 = .slice (some ⟨S', 0, none⟩) (2 * kn true) cap' ∧ S' < w2.heap.size ∧ 2 * kn true ≤ cap' ∧ OldsL true S' w2 ∧ S' ≠ b ∧ w.heap.size ≤ b ∧ Below w.heap.size w w2) :=
    ⟨f, k0, k1, k2, k3, k4, k5, k6, k7, k8, by omega, HB1.out.trans (k10.mono (by omega))⟩
  clear k0 k1 k2 k3 k4 k5 k6 k7 k8 k9 k10
  go_wp2
  go_ret
  obtain ⟨f, hf⟩ := HP.out
  exact ⟨b, S', _, f, rfl, hf⟩

set_option maxHeartbeats 800000 in
set_option maxRecDepth 100000 in
theorem esc_text (s : ByteArray) (w : World) (hs : s.size ≤ 1048576) :
    Calls Try.prog 9 #[.string s] w fun e w' => e = .returned (.string ⟨(escL false s.data.toList).toArray⟩) ∧ Below w.heap.size w w' := by
  go_enter Try.func9, Try.ntmps9
  go_wp2_with fail
  refine (writer_text w).mono ?_
  rintro e w1 ⟨b, S', cap', f, rfl, k0, k1, k2, k3, k4, k5, k6, k7, k8, k9, k10⟩
  have HR := Aside0.mk (rep_replace false w.heap.size b S' cap' f s w1 hs k0 k1 k2 k3 k4 k5 k6 (olds_of k7) k8 k9)
  have HB := Aside0.mk k10
  clear k0 k1 k2 k3 k4 k5 k6 k7 k8 k9 k10
  go_wp2_with fail
  refine HR.out.mono ?_
  rintro e w2 ⟨rfl, hb⟩
  have HB2 := Aside0.mk (HB.out.trans hb)
  clear hb
  go_wp2
  go_ret
  exact ⟨rfl, HB2.out⟩

set_option maxHeartbeats 800000 in
set_option maxRecDepth 100000 in
theorem esc_value (s : ByteArray) (w : World) (hs : s.size ≤ 1048576) :
    Calls Try.prog 10 #[.string s] w fun e w' => e = .returned (.string ⟨(escL true s.data.toList).toArray⟩) ∧ Below w.heap.size w w' := by
  have hM : ∀ j u, moreV[j]? = some u → (w.alloc (.cells #[.string ⟨#[34]⟩, .string ⟨#[38, 113, 117, 111, 116, 59]⟩] 9)).cell? ⟨w.heap.size, j, none⟩ = some u := by
    intro j u hu
    rw [World.cell?_alloc_new, ← Array.getElem?_toList]
    exact hu
  have HW := Aside0.mk (writer_value w.heap.size _ hM (by simp))
  have HB0 := Aside0.mk (below_alloc (Below.refl w.heap.size w) (.cells #[.string ⟨#[34]⟩, .string ⟨#[38, 113, 117, 111, 116, 59]⟩] 9))
  clear hM
  go_enter Try.func10, Try.ntmps10
  go_wp2_with fail
  refine HW.out.mono ?_
  rintro e w1 ⟨b, S', cap', f, rfl, k0, k1, k2, k3, k4, k5, k6, k7, k8, k9, k10⟩
  have HR := Aside0.mk (rep_replace true w.heap.size b S' cap' f s w1 hs k0 k1 k2 k3 k4 k5 k6 (olds_of k7) k8 (by rw [World.size_alloc] at k9; omega))
  have HB : Aside0 (Below w.heap.size w w1) := ⟨HB0.out.trans (k10.mono (by simp))⟩
  clear k0 k1 k2 k3 k4 k5 k6 k7 k8 k9 k10
  go_wp2_with fail
  refine HR.out.mono ?_
  rintro e w2 ⟨rfl, hb⟩
  have HB2 := Aside0.mk (HB.out.trans hb)
  clear hb
  go_wp2
  go_ret
  exact ⟨rfl, HB2.out⟩
end Go.Proofs.Ytebcdfdkgjcmmaa.Hand
