import Derived.Test.YtdknneofiefieaaGreatDoorRows
import Derived.OpenShut
import Derived.LaidMore
import Derived.Lay
import Derived.SevenTiedAt
import Derived.Stop.Joined
import Derived.Test.YtdknneofiefieaaGreatDoorOpn

namespace Go.Proofs.YtdknneofiefieaaGreatDoor
open Go.RowKit Go.Lib Go.ChangeShapes Go.WideShapes Go.ChangeAt Sh

/-- what the rows of this seat list -/
def laidL : List (String × DataW Unit) := Rows.shiftZonesRow.laid

theorem trow {zs : List Int} {k : IntKind} : (Lib.tabData k zs : DataW Unit) = .agg (zs.map fun z => .lit (.int k z)) := rfl

set_option maxRecDepth 100000 in
theorem signs_of {W : World} {fuel : Nat} {cs : List Value} {p : List MemPlace} (h : DataW.trod (fun _ => ()) Tryz.prog W 0 (fun _ => true) false fuel 207 cs = some (Rows.laid_metrolab_bonus_signs, p)) :
    cs = [.int .i64 (-1), .int .i64 (-1), .int .i64 1, .int .i64 1, .int .i64 1, .int .i64 (-1)] := by
  obtain ⟨xs, m, _, ex, hl, hlen, hel⟩ := DataW.trod_array Tryz.underlying207 h
  have c3 : Tryz.prog.cellsOf 206 = 3 := by kernel_rfl
  have c6 : Tryz.prog.cellsOf 207 = 6 := by kernel_rfl
  rw [c6] at hl
  rw [c3] at hel
  match xs, hlen with
  | [x0, x1], _ =>
    have h0 := hel 0 (by decide)
    have h1 := hel 1 (by decide)
    obtain ⟨d0, p0⟩ := x0
    obtain ⟨d1, p1⟩ := x1
    have e := (Prod.mk.inj ex).1
    unfold Rows.laid_metrolab_bonus_signs at e
    simp only [List.map_cons, List.map_nil, DataW.agg.injEq, List.cons.injEq, and_true] at e
    obtain ⟨rfl, rfl⟩ := e
    have k0 := Lib.cells_of_tab (zs := [-1, -1, 1]) Tryz.underlying206 Tryz.underlying3 ci1 c3 h0
    have k1 := Lib.cells_of_tab (zs := [1, 1, -1]) Tryz.underlying206 Tryz.underlying3 ci1 c3 h1
    have e2 : cs = cs.take 3 ++ (cs.drop 3).take 3 := by
      have h9 := List.take_append_drop 3 cs
      rw [List.take_of_length_le (l := cs.drop 3) (by rw [List.length_drop]; omega)]
      exact h9.symm
    rw [e2]
    have k0 : cs.take 3 = [.int .i64 (-1), .int .i64 (-1), .int .i64 1] := k0
    have k1 : (cs.drop 3).take 3 = [.int .i64 1, .int .i64 1, .int .i64 (-1)] := k1
    rw [k0, k1]; rfl

set_option maxRecDepth 100000 in
theorem gd_of {W : World} (hsh : W.ShapedOpen Tryz.prog) (hL : laidMetH Tryz.prog laidL W) : Gd W := by
  rw [MakeChecks.laidMetH_plain _ _ _ (by kernel_rfl)] at hL
  have h1 := hL.tail.tail
  have h2 := h1.tail
  refine ⟨hsh, ?_, ?_⟩
  · exact Lib.tabIs_of_head (g := 6) (zs := Lib.pow10Tab) (by kernel_rfl) (by kernel_rfl) Tryz.underlying302 Tryz.underlying280 (by kernel_rfl) (by kernel_rfl) h1
  · obtain ⟨ps, ⟨g', t', cs, fuel, p, q, hg', ht', hvar, hd, _, _⟩, _⟩ := h2
    obtain rfl := Option.some.inj ((show Tryz.prog.globalNamed "metrolab/bonus.signs" = some 0 by kernel_rfl).symm.trans hg')
    obtain rfl := Option.some.inj ((show (Tryz.prog.globals[0]?).map (·.type) = some 207 by kernel_rfl).symm.trans ht')
    have e := signs_of hd
    rw [hvar]
    congr 1
    obtain ⟨l⟩ := cs
    simp only at e
    rw [e]

/-- the wrap that keeps both the listed variables and the world's shape -/
theorem handed_both {H : Type} {enc : TypeId × Value → H} {a : Assume} {C : Checked} {os : Os} {f : FuncId} {fn : Func} {s : ChangeSpec} {conds : List PathCond} {apart fresh handsOn again : Bool} {X : World → Array Value → Prop}
    (hX : ∀ (w w' : World) (args : Array Value), w.heap = w'.heap → X w args → X w' args)
    (own : ownKnob C.prog.godebug = none) (started : os.Started) (noInit : C.prog.inits.idxOf? f = none) (hfn : C.prog.funcs[f]? = some fn)
    (witness : ∃ (w : World) (tape : Tape) (i : Input), w.os = os ∧ (w.forCall tape i).Shaped C.prog ∧ i.vars = [] ∧ Input.okWide C.prog (w.forCall tape i) .any w.heap.size f i ∧
      ((s.pre enc C.prog fn conds apart (w.forCall tape i).memory i.args ∧ X (w.forCall tape i).memory i.args) ∧ sizedMet enc C.prog fn (OpenSpec.ofChange s) apart (w.forCall tape i).memory i.args) ∧ a.holds C.prog (lone (Frame.enter C.prog f i.args .normal) [] (w.forCall tape i)))
    (contract : ∀ (W : World) (base : Nat) (args : Array Value) (ds gs : List (DataW H)) (before : List MemPlace),
      (∀ (j : Nat) t v, fn.params[j]? = some t → args[j]? = some v → Value.okWide C.prog W .any base t v) →
      DataW.Whole enc C.prog fn.params.toList s.vars apart W args.toList ds gs before → X W args → W.ShapedOpen C.prog →
      Calls C.prog f args W fun e W' => ∃ v, e = .returned v ∧ s.post enc C.prog fn apart fresh handsOn again W args v W') :
    ReturnsInHanded a C os f .any (fun w args => (s.pre enc C.prog fn conds apart w args ∧ X w args) ∧ sizedMet enc C.prog fn (OpenSpec.ofChange s) apart w args) (s.post enc C.prog fn apart fresh handsOn again) := by
  refine returnsInHanded_of_calls own started noInit witness ?_
  intro w tape i _ hsh _ hok hpre _
  obtain ⟨_, _, _, fn', hfn', _, _, _, _, hval⟩ := hok
  obtain rfl : fn' = fn := Option.some.inj (hfn'.symm.trans hfn)
  obtain ⟨⟨⟨ds, gs, before, hw, _⟩, hx⟩, _⟩ := hpre
  refine (contract (w.forCall tape i) w.heap.size i.args ds gs before hval (DataW.Whole.of_heap (w' := w.forCall tape i) (by rfl) hw) (hX _ _ _ (by rfl) hx) hsh).mono fun e W' ⟨v, he, hp⟩ => ?_
  subst he
  exact ChangeSpec.post_blind hp
theorem own_none : ownKnob Tryz.prog.godebug = none := by kernel_rfl
theorem laid_out : laidOutB Tryz.prog = true := by kernel_rfl
end Go.Proofs.YtdknneofiefieaaGreatDoor
