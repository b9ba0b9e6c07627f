/- what the listed variables and the world's shape give the lines' functions; a frame for a row that lists variables, with the world's shape kept. -/
import Derived.Test.YtadhkeboaapfcaaGreatDoorSplit
import Derived.Test.YtadhkeboaapfcaaGreatDoorLaw
import Derived.Lay
import Derived.LaidLaws
import Derived.LaidMore
import Derived.Lib.LaidTab
import Derived.Shelf.Vars
namespace Go.Proofs.YtadhkeboaapfcaaGreatDoor
open Go.ChangeShapes Go.WideShapes Go.ChangeAt Go.RowKit
set_option linter.unusedVariables false
set_option maxRecDepth 100000

def laidL : List (String × DataW Unit) := [("math/bits.deBruijn32tab", Rows.laid_math_bits_deBruijn32tab), ("math/bits.deBruijn64tab", Rows.laid_math_bits_deBruijn64tab), ("internal/strconv.uint64pow10", Rows.laid_internal_strconv_uint64pow10), ("unicode/utf8.acceptRanges", Rows.laid_unicode_utf8_acceptRanges), ("strconv.ErrRange", Rows.laid_strconv_ErrRange), ("strconv.ErrSyntax", Rows.laid_strconv_ErrSyntax), ("unicode/utf8.first", Rows.laid_unicode_utf8_first)]
theorem pow_tab : Rows.laid_internal_strconv_uint64pow10 = (Lib.tabData .u64 Lib.pow10Tab : DataW Unit) := rfl
theorem laid_plain : ∀ W, laidMetH Tryz.prog laidL W = laidMet Tryz.prog laidL W := fun W => MakeChecks.laidMetH_plain _ _ _ (by kernel_rfl)
theorem err_iface {W : World} {fuel : Nat} {cs : Array Value} {nm : String} {d : DataW Unit} {p : List MemPlace} {ms : Array (String × TypeId)} (hi : Tryz.prog.underlying 74 = some (.interface ms))
    (h : DataW.trod (fun _ => ()) Tryz.prog W 0 (fun _ => true) false fuel 74 cs.toList = some (.iface nm d, p)) : ∃ te pe, cs = #[.iface te pe] := by
  obtain ⟨f2, u, v, e, _, _⟩ := iface_of_trod hi h
  exact ⟨u, v, Array.ext' e⟩
theorem env_of {W : World} (h : laidMetH Tryz.prog laidL W) (hsh : W.ShapedOpen Tryz.prog) : EvW.Env W := by
  rw [laid_plain] at h
  obtain ⟨ps, hL, _, _⟩ := h
  obtain ⟨g1, t1, c1, f1, p1, q1, _, _, _, _, hL, _⟩ := hL
  obtain ⟨g2, t2, c2, f2, p2, q2, _, _, _, _, hL, _⟩ := hL
  obtain ⟨g3, t3, c3, f3, p3, q3, hg3, ht3, hv3, hd3, hL, _⟩ := hL
  obtain ⟨g4, t4, c4, f4, p4, q4, _, _, _, _, hL, _⟩ := hL
  obtain ⟨g5, t5, c5, f5, p5, q5, hg5, ht5, hv5, hd5, hL, _⟩ := hL
  obtain ⟨g6, t6, c6, f6, p6, q6, hg6, ht6, hv6, hd6, hL, _⟩ := hL
  obtain rfl := Option.some.inj ((show Tryz.prog.globalNamed "internal/strconv.uint64pow10" = some 1 by kernel_rfl).symm.trans hg3)
  obtain rfl := Option.some.inj ((show (Tryz.prog.globals[1]?).map (·.type) = some 130 by kernel_rfl).symm.trans ht3)
  obtain rfl := Option.some.inj ((show Tryz.prog.globalNamed "strconv.ErrRange" = some 3 by kernel_rfl).symm.trans hg5)
  obtain rfl := Option.some.inj ((show (Tryz.prog.globals[3]?).map (·.type) = some 74 by kernel_rfl).symm.trans ht5)
  obtain rfl := Option.some.inj ((show Tryz.prog.globalNamed "strconv.ErrSyntax" = some 2 by kernel_rfl).symm.trans hg6)
  obtain rfl := Option.some.inj ((show (Tryz.prog.globals[2]?).map (·.type) = some 74 by kernel_rfl).symm.trans ht6)
  refine ⟨?_, ?_, ?_, ?_⟩
  · show Tryz.prog |> fun P => Lib.TabIs P W _ _ _
    show Lib.TabIs Tryz.prog W "internal/strconv.uint64pow10" .u64 Lib.pow10Tab
    unfold Lib.TabIs
    rw [hv3, ← Lib.cells_of_tab Tryz.underlying130 Tryz.underlying110 (by kernel_rfl) (by kernel_rfl) (show DataW.trod (fun _ => ()) Tryz.prog W 0 (fun _ => true) false f3 130 c3.toList = some (Lib.tabData .u64 Lib.pow10Tab, p3) from hd3)]
  · exact Go.Proofs.cell_of_shapedOpen_int (zero := #[.int .i64 0]) (t := 3) hsh (of_decide_eq_true (by kernel_rfl)) (by kernel_rfl) rfl (by kernel_rfl) (by kernel_rfl) Tryz.underlying3
  · obtain ⟨te, pe, rfl⟩ := err_iface Tryz.underlying74 hd6
    exact ⟨te, pe, hv6⟩
  · obtain ⟨te, pe, rfl⟩ := err_iface Tryz.underlying74 hd5
    exact ⟨te, pe, hv5⟩

section
variable {H : Type} {enc : TypeId × Value → H}
/-- the frame of a row that lists variables, the world's shape kept -/
theorem returns_laid {a : Assume} {os : Os} {f : FuncId} {fn : Func} {s : ChangeSpec} {conds : List PathCond} {apart fresh handsOn again : Bool}
    (started : os.Started) (noInit : Tryz.prog.inits.idxOf? f = none) (hfn : Tryz.prog.funcs[f]? = some fn)
    (witness : ∃ (w : World) (tape : Tape) (i : Input), w.os = os ∧ (w.forCall tape i).Shaped Tryz.prog ∧ i.vars = [] ∧ Input.okWide Tryz.prog (w.forCall tape i) .any w.heap.size f i ∧
      ((s.pre enc Tryz.prog fn conds apart (w.forCall tape i).memory i.args ∧ laidMetH Tryz.prog laidL (w.forCall tape i).memory) ∧ sizedMet enc Tryz.prog fn (OpenSpec.ofChange s) apart (w.forCall tape i).memory i.args) ∧ a.holds Tryz.prog (lone (Frame.enter Tryz.prog f i.args .normal) [] (w.forCall tape i)))
    (contract : ∀ (W : World) (base : Nat) (args : Array Value) (ds gs : List (DataW H)) (before : List MemPlace),
      (∀ (j : Nat) t v, fn.params[j]? = some t → args[j]? = some v → Value.okWide Tryz.prog W .any base t v) →
      DataW.Whole enc Tryz.prog fn.params.toList s.vars apart W args.toList ds gs before →
      (DataW.weightsEach Tryz.prog (fn.params.toList ++ s.plain.varTypes Tryz.prog) (ds ++ gs)).all (· ≤ reachBytes) = true → EvW.Env W →
      Calls Tryz.prog f args W fun e W' => ∃ v, e = .returned v ∧ s.post enc Tryz.prog fn apart fresh handsOn again W args v W') :
    ReturnsInHanded a Tryz.checked os f .any (fun w args => (s.pre enc Tryz.prog fn conds apart w args ∧ laidMetH Tryz.prog laidL w) ∧ sizedMet enc Tryz.prog fn (OpenSpec.ofChange s) apart w args) (s.post enc Tryz.prog fn apart fresh handsOn again) := by
  refine returnsInHanded_of_calls (C := Tryz.checked) own started noInit witness ?_
  intro w tape i _ hsh _ hok hpre hholds
  obtain ⟨_, _, _, fn', hfn', _, _, _, _, hval⟩ := hok
  have e : fn' = fn := Option.some.inj (hfn'.symm.trans hfn)
  subst e
  obtain ⟨⟨⟨ds, gs, before, hw, hc⟩, hx⟩, hz⟩ := hpre
  have hw' := DataW.Whole.of_heap (w' := w.forCall tape i) (by rfl) hw
  have hx' : laidMetH Tryz.prog laidL (w.forCall tape i) := hx.of_heap (by rfl)
  refine (contract (w.forCall tape i) w.heap.size i.args ds gs before hval hw' (hz.weights hw) (env_of hx' hsh)).mono fun e W' ⟨v, he, hp⟩ => ?_
  subst he
  exact ChangeSpec.post_blind hp
end
/-- the condition in the witness's world -/
theorem laid_met (os : Os) (args : Array Value) : laidMetH Tryz.prog laidL ((World.laidAll Tryz.prog os laidL).forCall (fun _ _ => 0) ⟨#[], args, []⟩).memory := by
  rw [laid_plain]
  exact laidMet_laidAll _ (by kernel_rfl) (by kernel_rfl)
theorem laid_shaped (os : Os) (args : Array Value) : ((World.laidAll Tryz.prog os laidL).forCall (fun _ _ => 0) ⟨#[], args, []⟩).Shaped Tryz.prog := World.shaped_of_ZipB (by kernel_rfl) (by kernel_rfl)
end Go.Proofs.YtadhkeboaapfcaaGreatDoor
