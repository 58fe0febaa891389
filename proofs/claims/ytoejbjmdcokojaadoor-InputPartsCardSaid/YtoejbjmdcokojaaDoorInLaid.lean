/- By hand: what a row's listed variables give the walks, and the wrap that hands both the listed variables and the world's shape to a contract. -/
import Derived.Test.YtoejbjmdcokojaaDoorRows
import Derived.Test.YtoejbjmdcokojaaDoorInByte
import Derived.ProofKit
import Derived.OpenShut
import Derived.LaidMore
import Derived.Lay
import Derived.HandedShaped
import Derived.Shelf.Vars
import Derived.Stop.Joined
namespace Go.Proofs.YtoejbjmdcokojaaDoor.Hand
set_option linter.unusedVariables false
set_option linter.unusedSimpArgs false
open Go Go.RowKit Go.ChangeShapes Go.WideShapes Go.ChangeAt Go.Proofs.YtoejbjmdcokojaaDoorW.PrintWords
variable {H : Type} {enc : TypeId × Value → H}

theorem gRest : Tryd.prog.globalNamed "portiere/input.rest" = some 0 := by kernel_rfl
theorem tRest : (Tryd.prog.globals[0]?).map (·.type) = some 40 := by kernel_rfl
theorem maxLen_row : ((begin Tryd.prog (fun _ _ => 0) default).world.heap[1]?).bind Obj.row? = some (#[.int .i64 0], 3) := by kernel_rfl

theorem laidW_of {W : World} (h : laidMetH Tryd.prog Rows.inputDecodesRow.laid W) (hs : W.ShapedOpen Tryd.prog) : LaidW W := by
  rw [MakeChecks.laidMetH_plain _ _ _ (by kernel_rfl)] at h
  obtain ⟨ps, ⟨g0, t0, cs0, f0, p0, q0, hg0, ht0, hv0, hd0, ⟨g1, t1, cs1, f1, p1, q1, hg1, ht1, hv1, hd1, _, _⟩, _⟩, _, _⟩ := h
  obtain rfl := Option.some.inj (gRest.symm.trans hg1)
  obtain rfl := Option.some.inj (tRest.symm.trans ht1)
  obtain ⟨y0, y1, n, ex, hl, e0, e1⟩ := trod_struct2 Tryd.underlying40 hd1
  have c5 : Tryd.prog.cellsOf 5 = 1 := by kernel_rfl
  obtain ⟨a, ea, ea2, _⟩ := DataW.trod_int Tryd.underlying5 e0
  obtain ⟨b, eb, eb2, _⟩ := DataW.trod_int Tryd.underlying5 e1
  have ex1 := (Prod.mk.inj ex).1
  rw [ea2, eb2] at ex1
  have ha : a = 128 ∧ b = 191 := by
    have : Rows.laid_portiere_input_rest (H := Unit) = .agg [.lit (.int .u8 a), .lit (.int .u8 b)] := ex1
    simp [Rows.laid_portiere_input_rest] at this
    omega
  obtain ⟨rfl, rfl⟩ := ha
  have hc0 := World.var?_cell hg1 hv1 0
  have hc1 := World.var?_cell hg1 hv1 1
  obtain ⟨l1⟩ := cs1
  rw [c5] at ea eb
  have hm := cell_of_shapedOpen_int (k := .i64) hs (g := 1) (by decide +kernel) maxLen_row rfl (by kernel_rfl) (by kernel_rfl) Tryd.underlying3
  match l1, ea, eb with
  | x :: y :: _, ea, eb =>
    simp at ea eb
    subst ea eb
    exact ⟨by simpa using hc0, by simpa using hc1, hm⟩

theorem returnsInHanded_laid {a : Assume} {C : Checked} {os : Os} {f : FuncId} {fn : Func} {s : ChangeSpec} {conds : List PathCond} {apart fresh handsOn again : Bool} {X : World → Array Value → Prop}
    (hX : ∀ (w w' : World) (args : Array Value), w.heap = w'.heap → X w args → X w' args)
    (own : ownKnob C.prog.godebug = none) (started : os.Started) (noInit : C.prog.inits.idxOf? f = none) (hfn : C.prog.funcs[f]? = some fn)
    (witness : ∃ (w : World) (tape : Tape) (i : Input), w.os = os ∧ (w.forCall tape i).Shaped C.prog ∧ i.vars = [] ∧ Input.okWide C.prog (w.forCall tape i) .any w.heap.size f i ∧
      ((s.pre enc C.prog fn conds apart (w.forCall tape i).memory i.args ∧ X (w.forCall tape i).memory i.args) ∧ sizedMet enc C.prog fn (OpenSpec.ofChange s) apart (w.forCall tape i).memory i.args) ∧ a.holds C.prog (lone (Frame.enter C.prog f i.args .normal) [] (w.forCall tape i)))
    (contract : ∀ (W : World) (base : Nat) (args : Array Value) (ds gs : List (DataW H)) (before : List MemPlace),
      (∀ (j : Nat) t v, fn.params[j]? = some t → args[j]? = some v → Value.okWide C.prog W .any base t v) →
      DataW.Whole enc C.prog fn.params.toList s.vars apart W args.toList ds gs before →
      conds.all (PathCond.test C.prog ⟨fn.params.toList, ds, s.plain.varTypes C.prog, gs⟩) = true →
      (DataW.weightsEach C.prog (fn.params.toList ++ s.plain.varTypes C.prog) (ds ++ gs)).all (· ≤ reachBytes) = true → W.ShapedOpen C.prog → X W args →
      Calls C.prog f args W fun e W' => ∃ v, e = .returned v ∧ s.post enc C.prog fn apart fresh handsOn again W args v W') :
    ReturnsInHanded a C os f .any (fun w args => (s.pre enc C.prog fn conds apart w args ∧ X w args) ∧ sizedMet enc C.prog fn (OpenSpec.ofChange s) apart w args) (s.post enc C.prog fn apart fresh handsOn again) := by
  refine returnsInHanded_of_calls own started noInit witness ?_
  intro w tape i _ hsh _ hok hpre hholds
  obtain ⟨_, _, _, fn', hfn', _, _, _, _, hval⟩ := hok
  have e : fn' = fn := Option.some.inj (hfn'.symm.trans hfn)
  subst e
  obtain ⟨⟨⟨ds, gs, before, hw, hc⟩, hx⟩, hz⟩ := hpre
  have hw' := DataW.Whole.of_heap (w' := w.forCall tape i) (by rfl) hw
  refine (contract (w.forCall tape i) w.heap.size i.args ds gs before hval hw' hc (hz.weights hw) hsh (hX _ _ _ (by rfl) hx)).mono fun e W' ⟨v, he, hp⟩ => ?_
  subst he
  exact ChangeSpec.post_blind hp

/-- The door's variables laid by the kit's function: they meet the rows' condition. -/
theorem laid_met (os : Os) (args : Array Value) : laidMetH Tryd.prog Rows.inputDecodesRow.laid ((World.laidAll Tryd.prog os Rows.inputDecodesRow.laid).forCall (fun _ _ => 0) ⟨#[], args, []⟩).memory := by
  rw [MakeChecks.laidMetH_plain _ _ _ (by kernel_rfl)]
  exact laidMet_laidAll _ (by kernel_rfl) (by kernel_rfl)
end Go.Proofs.YtoejbjmdcokojaaDoor.Hand
