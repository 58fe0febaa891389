/- Noughts ahead of a number change nothing; a number too great is none: the law portierelaw04.CharrefZeros, for every input. -/
import Derived.Test.YtijjfkjihifjpaaPx17
import Derived.Test.YtijjfkjihifjpaaDigits4
import Derived.Test.YtijjfkjihifjpaaKnown4
namespace Go.Proofs.Ytijjfkjihifjpaa.Pure
set_option linter.unusedVariables false
set_option linter.unusedSimpArgs false
open Go Go.RowKit Go.Proofs.Ytijjfkjihifjpaa.P Go.Proofs.Ytijjfkjihifjpaa.Hand Go.Proofs.Ytijjfkjihifjpaa.RefCharref Go.Proofs.Ytijjfkjihifjpaa.Laws4 Go.Proofs.YtijjfkjihifjpaaW.PrintWords Go.Proofs.YtijjfkjihifjpaaW.PrintLast Go.Proofs.YtijjfkjihifjpaaW.PrintMore

theorem wf_bounds {k : IntKind} {n : Int} (h : (Lit.int k n).wf = true) : k.min ≤ n ∧ n ≤ k.max := by
  simp only [Lit.wf, Bool.and_eq_true, decide_eq_true_eq] at h
  exact h
theorem value_zeros (m : Nat) (ds : List UInt8) : valueOf 10 (List.replicate m 48 ++ ds) 0 = valueOf 10 ds 0 := by
  induction m with
  | zero => rfl
  | succ m ih =>
    rw [List.replicate_succ, List.cons_append]
    show valueOf 10 (List.replicate m 48 ++ ds) (0 * 10 + digitOf ((48 : UInt8).toNat : Int)) = _
    rw [show (0 * 10 + digitOf ((48 : UInt8).toNat : Int)) = 0 by decide]
    exact ih
theorem value_mono (ds : List UInt8) (h : ∀ c ∈ ds, 0 ≤ digitOf c.toNat) : ∀ v, 0 ≤ v → v ≤ valueOf 10 ds v := by
  induction ds with
  | nil => intro v _; exact Int.le_refl _
  | cons c ds ih =>
    intro v hv
    have hc := h c List.mem_cons_self
    have := ih (fun y hy => h y (List.mem_cons_of_mem _ hy)) (v * 10 + digitOf c.toNat) (by omega)
    show v ≤ valueOf 10 ds (v * 10 + digitOf c.toNat)
    omega
theorem zeros_end (n z : Int) (t z0 : ByteArray) (m : Nat) (k : Nat) (hz : z0.data.toList = List.replicate m 48) (hm : m ≤ 40) (hk : portierelaw04_digits.f k (n % 4294967296) 10 = some t) (hd : Digs 10 n t.data.toList) (hts : t.size ≤ 40) (hn0 : 0 ≤ n) (hn1 : n ≤ 65535) (hw : wrap64 (Int.tmod z 40) = m) :
    portierelaw04_CharrefZeros.l0 (k + 1) n z z0 m = some true := by
  obtain ⟨tne, tds, tval⟩ := hd
  have hzs : z0.size = m := by rw [size_list, hz]; simp
  have htl := size_list t
  have vt : valueOf 10 t.data.toList 0 = n := by rw [tval]; omega
  have s1 : (((⟨#[38, 35]⟩ : ByteArray) ++ t) ++ (⟨#[59]⟩ : ByteArray)).size = 2 + t.size + 1 := by
    rw [ByteArray.size_append, ByteArray.size_append]; rfl
  have s2 : ((((⟨#[38, 35]⟩ : ByteArray) ++ z0) ++ t) ++ (⟨#[59]⟩ : ByteArray)).size = 2 + z0.size + t.size + 1 := by
    rw [ByteArray.size_append, ByteArray.size_append, ByteArray.size_append]; rfl
  have s3 : (((⟨#[38, 35, 57]⟩ : ByteArray) ++ t) ++ (⟨#[57, 57, 57, 57, 57, 57, 57, 57, 59]⟩ : ByteArray)).size = 3 + t.size + 9 := by
    rw [ByteArray.size_append, ByteArray.size_append]; rfl
  have k1 : charref_Take.f (((⟨#[38, 35]⟩ : ByteArray) ++ t) ++ (⟨#[59]⟩ : ByteArray)) 0 false = some ((pointOf (min n 1114112)).1, (t.size : Int) + 3, (pointOf (min n 1114112)).2) := by
    rw [take_num _ (t.data.toList ++ 59 :: []) false (by rw [app_list, app_list]; simp) (by omega)]
    rw [numRef_dec _ _ tne (fun c hc => ⟨(tds c hc).1, (tds c hc).2.1, (tds c hc).2.2.1, (tds c hc).2.2.2.1⟩), vt, htl]
  have k2 : charref_Take.f ((((⟨#[38, 35]⟩ : ByteArray) ++ z0) ++ t) ++ (⟨#[59]⟩ : ByteArray)) 0 false = some ((pointOf (min n 1114112)).1, ((m + t.size : Nat) : Int) + 3, (pointOf (min n 1114112)).2) := by
    rw [take_num _ ((List.replicate m 48 ++ t.data.toList) ++ 59 :: []) false (by rw [app_list, app_list, app_list, hz]; simp) (by omega)]
    rw [numRef_dec _ _ (by simp [tne]) (fun c hc => ?_), value_zeros, vt]
    · rw [List.length_append, List.length_replicate, htl]
    · rw [List.mem_append] at hc
      rcases hc with hc | hc
      · rw [List.eq_of_mem_replicate hc]
        decide
      · exact ⟨(tds c hc).1, (tds c hc).2.1, (tds c hc).2.2.1, (tds c hc).2.2.2.1⟩
  have k3 : charref_Take.f (((⟨#[38, 35, 57]⟩ : ByteArray) ++ t) ++ (⟨#[57, 57, 57, 57, 57, 57, 57, 57, 59]⟩ : ByteArray)) 0 false = some ((⟨#[239, 191, 189]⟩ : ByteArray), ((1 + t.size + 8 : Nat) : Int) + 3, 2) := by
    rw [take_num _ ((57 :: (t.data.toList ++ [57, 57, 57, 57, 57, 57, 57, 57])) ++ 59 :: []) false (by rw [app_list, app_list]; simp) (by omega)]
    rw [numRef_dec _ _ (by simp) (fun c hc => ?_)]
    · have hv : 1114112 ≤ valueOf 10 (57 :: (t.data.toList ++ [57, 57, 57, 57, 57, 57, 57, 57])) 0 := by
        have e : valueOf 10 (57 :: (t.data.toList ++ [57, 57, 57, 57, 57, 57, 57, 57])) 0 = valueOf 10 [57, 57, 57, 57, 57, 57, 57, 57] (valueOf 10 t.data.toList 9) := by
          show valueOf 10 (t.data.toList ++ [57, 57, 57, 57, 57, 57, 57, 57]) (0 * 10 + digitOf ((57 : UInt8).toNat : Int)) = _
          rw [show (0 * 10 + digitOf ((57 : UInt8).toNat : Int)) = 9 by decide]
          unfold valueOf
          rw [List.foldl_append]
        rw [e]
        have h9 := value_mono t.data.toList (fun c hc => (tds c hc).1) 9 (by omega)
        generalize valueOf 10 t.data.toList 9 = v at *
        show 1114112 ≤ (((((((v * 10 + digitOf ((57 : UInt8).toNat : Int)) * 10 + digitOf ((57 : UInt8).toNat : Int)) * 10 + digitOf ((57 : UInt8).toNat : Int)) * 10 + digitOf ((57 : UInt8).toNat : Int)) * 10 + digitOf ((57 : UInt8).toNat : Int)) * 10 + digitOf ((57 : UInt8).toNat : Int)) * 10 + digitOf ((57 : UInt8).toNat : Int)) * 10 + digitOf ((57 : UInt8).toNat : Int)
        rw [show digitOf ((57 : UInt8).toNat : Int) = 9 by decide]
        omega
      have hp : pointOf (min (valueOf 10 (57 :: (t.data.toList ++ [57, 57, 57, 57, 57, 57, 57, 57])) 0) 1114112) = (⟨#[239, 191, 189]⟩, 2) := by
        unfold pointOf
        rw [if_pos (by omega)]
      rw [hp]
      congr 3
      rw [List.length_cons, List.length_append, htl]
      simp
      omega
    · simp only [List.mem_cons, List.mem_append, List.not_mem_nil, or_false] at hc
      rcases hc with hc | hc | hc
      · subst hc; decide
      · exact ⟨(tds c hc).1, (tds c hc).2.1, (tds c hc).2.2.1, (tds c hc).2.2.2.1⟩
      · have : c = 57 := by rcases hc with h | h | h | h | h | h | h | h <;> exact h
        subst this; decide
  have W1 : Aside0 (wrap64 ((wrap64 (3 + (z0.size : Int))) + (t.size : Int)) = ((m + t.size : Nat) : Int) + 3) := ⟨by
    rw [wrap64_id (x := 3 + (z0.size : Int)) (by omega) (by omega), wrap64_id (by omega) (by omega)]; omega⟩
  simp only [portierelaw04_CharrefZeros.l0]
  rw [hw, if_neg (by omega), hk, Option.bind_some, if_pos (by omega), if_pos (by omega), k1, Option.bind_some, if_pos (by omega), if_pos (by omega), if_pos (by omega), k2, Option.bind_some, if_pos (by omega), if_pos (by omega), k3, Option.bind_some, known_true, Option.bind_some, if_pos rfl]
  simp only
  rw [if_pos trivial, if_pos trivial, W1.out, if_pos rfl, toList_data]
  rfl
theorem zeros_loop (n z : Int) (t : ByteArray) (M : Nat) (hM : M ≤ 40) (hw : wrap64 (Int.tmod z 40) = M) (hd : Digs 10 n t.data.toList) (hts : t.size ≤ 40) (hn0 : 0 ≤ n) (hn1 : n ≤ 65535) (k0 : Nat) (hk : ∀ k, k0 ≤ k → portierelaw04_digits.f k (n % 4294967296) 10 = some t) :
    ∀ (d m : Nat) (z0 : ByteArray) (k : Nat), m + d = M → z0.data.toList = List.replicate m 48 → k0 + d + 1 ≤ k → portierelaw04_CharrefZeros.l0 k n z z0 m = some true := by
  intro d
  induction d with
  | zero =>
    intro m z0 k hm hz hkk
    obtain rfl : m = M := by omega
    obtain ⟨k, rfl⟩ : ∃ q, k = q + 1 := ⟨k - 1, by omega⟩
    exact zeros_end n z t z0 m k hz hM (hk k (by omega)) hd hts hn0 hn1 hw
  | succ d ih =>
    intro m z0 k hm hz hkk
    obtain ⟨k, rfl⟩ : ∃ q, k = q + 1 := ⟨k - 1, by omega⟩
    have hzs : z0.size = m := by rw [size_list, hz]; simp
    have W : Aside0 (wrap64 ((m : Int) + 1) = ((m + 1 : Nat) : Int)) := ⟨by rw [wrap64_id] <;> omega⟩
    simp only [portierelaw04_CharrefZeros.l0]
    rw [hw, if_pos (by omega), if_pos (by omega), W.out]
    refine ih (m + 1) (z0 ++ (⟨#[48]⟩ : ByteArray)) k (by omega) ?_ (by omega)
    rw [app_list, hz, List.replicate_succ']
theorem CharrefZeros : portierelaw04_CharrefZeros.Pure := by
  intro n z hn hz
  have hb : 0 ≤ n ∧ n ≤ 65535 := wf_bounds hn
  have hzb : 0 ≤ z ∧ z ≤ 255 := wf_bounds hz
  clear hn hz
  have hmod : n % 4294967296 = n := by omega
  obtain ⟨t, ht, hd, hsz⟩ := digs_of 10 (.inl rfl) 20 n (by omega) hb.1 (by omega) (by have h2 : (2 : Int) ^ 20 = 1048576 := (by decide); omega)
  have up : ∀ k, 20 + 1 ≤ k → portierelaw04_digits.f k (n % 4294967296) 10 = some t := by
    intro k hk
    rw [hmod]
    obtain ⟨d, rfl⟩ : ∃ d, k = 20 + 1 + d := ⟨k - (20 + 1), by omega⟩
    clear hk
    induction d with
    | zero => exact ht
    | succ d ih => exact portierelaw04_digits.mono n 10 (20 + 1 + d) t ih
  obtain ⟨M, hM, hMe⟩ : ∃ M : Nat, M ≤ 40 ∧ wrap64 (Int.tmod z 40) = M := by
    rw [Int.tmod_eq_emod_of_nonneg hzb.1, wrap64_id (by omega) (by omega)]
    exact ⟨(z % 40).toNat, by omega, by omega⟩
  refine ⟨20 + 1 + M + 1, ?_⟩
  unfold portierelaw04_CharrefZeros.f
  exact zeros_loop n z t M hM hMe hd (by omega) hb.1 hb.2 (20 + 1) up M 0 ⟨#[]⟩ (20 + 1 + M + 1) (by omega) rfl (Nat.le_refl _)

end Go.Proofs.Ytijjfkjihifjpaa.Pure
