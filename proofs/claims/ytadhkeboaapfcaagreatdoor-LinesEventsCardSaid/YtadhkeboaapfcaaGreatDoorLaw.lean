/- The frame of every law's proof: a call that hands back true and leaves all that was there as it was meets the row: true, each argument reads as it did. -/
import Derived.Test.YtadhkeboaapfcaaGreatDoorRows
import Derived.Test.YtadhkeboaapfcaaGreatDoorLow
import Derived.ProofKit
import Derived.OpenShut
import Derived.SizedLaws
import Derived.SliceStrings
namespace Go.Proofs.YtadhkeboaapfcaaGreatDoor
open Go.ChangeShapes Go.WideShapes Go.ChangeAt Go.RowKit
set_option linter.unusedVariables false
set_option maxRecDepth 100000

theorem own : ownKnob Tryz.prog.godebug = none := by kernel_rfl
theorem laidOut : laidOutB Tryz.prog = true := by kernel_rfl

theorem trodAll_stays {H : Type} {enc : TypeId × Value → H} {W W' : World} (hb : Below W.heap.size W W') : ∀ (ts : List TypeId) (vs : List Value) (ds : List (DataW H)) (ps : List MemPlace),
    (∀ t ∈ ts, Tryz.prog.readableRec t = true ∧ t < Tryz.prog.types.size) → (∀ x ∈ ps, x.block < W.heap.size) →
    DataW.TrodAll enc Tryz.prog W 0 (fun _ => true) true ts vs ds ps → DataW.TrodAll enc Tryz.prog W' 0 (fun b => decide (b < W.heap.size)) true ts vs ds ps
  | [], vs, ds, ps, _, _, h => by obtain ⟨rfl, rfl, rfl⟩ := trodAll_nil h; exact trodAll_mk0
  | t :: ts, vs, ds, ps, hr, hlt, h => by
    obtain ⟨v, vs', d, ds', p, q, rfl, rfl, rfl, h1, h2⟩ := trodAll_cons h
    exact trodAll_cons_mk (Below.trod laidOut (hr t (List.mem_cons_self ..)).1 (hr t (List.mem_cons_self ..)).2 h1 hb fun x hx => hlt x (List.mem_append_left _ hx))
      (trodAll_stays hb ts vs' ds' q (fun t ht => hr t (List.mem_cons_of_mem _ ht)) (fun x hx => hlt x (List.mem_append_right _ hx)) h2)

theorem law_post {f : Func} {s : ChangeSpec} {H : Type} {enc : TypeId × Value → H} {W W' : World} {args : Array Value} {ds gs : List (DataW H)} {before : List MemPlace} {tb : TypeId}
    (hW : DataW.Whole enc Tryz.prog f.params.toList s.vars false W args.toList ds gs before)
    (hr : ∀ t ∈ f.params.toList, Tryz.prog.readableRec t = true ∧ t < Tryz.prog.types.size) (hres : f.resultTypes = #[tb]) (hbool : Tryz.prog.underlying tb = some .bool) (hv : s.vars = [])
    (hfn : (s.fn H (ds ++ gs)).results = [.lit (.bool true)] ∧ (s.fn H (ds ++ gs)).args = ds ∧ (s.fn H (ds ++ gs)).vars = []) (hb : Below W.heap.size W W') :
    s.post enc Tryz.prog f false true false false W args (.bool true) W' := by
  have hlt : ∀ x ∈ before, x.block < W.heap.size := fun x hx => by simpa using hW.lt x hx
  have hW' := hW
  obtain ⟨p, q, hA, hV, rfl, _, _⟩ := hW
  rw [hv] at hV
  obtain ⟨rfl, rfl⟩ := trodVars_none hV
  refine ⟨ds, [], p ++ [], [], p, [], hW', ?_, ?_, ?_, hb.frame _, fun h => by cases h⟩
  · rw [hfn.1, hres]
    exact trodAll_mk1 (shut_bool hbool true)
  · rw [hfn.2.1]
    exact trodAll_stays hb _ _ _ _ hr (fun x hx => hlt x (by simpa using hx)) hA
  · rw [hfn.2.2, hv]; rfl

/-- an argument that is a slice of texts -/
theorem open_strs {H : Type} {enc : TypeId × Value → H} {W : World} {base : Nat} {t e : TypeId} {v : Value} {d : DataW H} {p : List MemPlace} (ht : Tryz.prog.underlying t = some (.slice e)) (he : Tryz.prog.underlying e = some .string) (hc : Tryz.prog.cellsOf e = 1)
    (hbytes : Tryz.prog.bytesOf e = 16) (hval : Value.okWide Tryz.prog W .any base t v) (h0 : DataW.Trod enc Tryz.prog W 0 (fun _ => true) true t v d p) (hw : ∀ n ∈ d.weights Tryz.prog t, n ≤ reachBytes) :
    ∃ a ss cap, v = .slice a ss.length cap ∧ Strs W a ss ∧ (∀ i (h : i < ss.length), ss[i].size ≤ 140737488351232) ∧ ss.length ≤ 8796093021952 := by
  obtain ⟨a0, len, cap, rfl⟩ := okWide_slice ht hval
  obtain ⟨fuel, hf⟩ := h0
  rcases open_strings ht he hc hf with ⟨hcs, hx⟩ | ⟨a, len', cap', ss, hcs, _, hl, hm, hz, hx, hcell, hws⟩
  · have : a0 = none ∧ len = 0 ∧ cap = 0 := by simpa [Value.cells] using hcs
    obtain ⟨rfl, rfl, rfl⟩ := this
    exact ⟨none, [], 0, rfl, fun i hi => by simp at hi, fun i hi => by simp at hi, by simp⟩
  · have : a0 = some a ∧ len = len' ∧ cap = cap' := by simpa [Value.cells] using hcs
    obtain ⟨rfl, rfl, rfl⟩ := this
    have hz' : ss.length = cap := by rw [hz]; simp
    have hd : d = .slice (strs (ss.take len)) (strs (ss.drop len)) := by simpa using congrArg Prod.fst hx
    subst hd
    have hlen : (ss.take len).length = len := by simp; omega
    refine ⟨some a, ss.take len, cap, by rw [hlen], Strs.of_cells fun i hi => ?_, fun i hi => ?_, ?_⟩
    · have hi' : i < ss.length := by simp at hi; omega
      rw [hcell i hi']
      simp [List.getD, hi']
    · have hmem : (ss.take len)[i].size ∈ (DataW.slice (strs (ss.take len)) (strs (ss.drop len)) : DataW H).weights Tryz.prog t := by
        simp only [DataW.weights, ht, List.mem_cons, List.mem_append]
        refine .inr (.inl ?_)
        have : ∀ (l : List ByteArray) (s : ByteArray), s ∈ l → s.size ∈ DataW.weightsAll Tryz.prog e (strs l : List (DataW H)) := by
          intro l s hs
          induction l with
          | nil => cases hs
          | cons x l ih =>
            simp only [strs, List.map_cons, DataW.weightsAll, DataW.weights, List.mem_append, List.mem_singleton]
            rcases List.mem_cons.1 hs with rfl | hs
            · left; rfl
            · right; exact ih hs
        exact this _ _ (List.getElem_mem hi)
      have := hw _ hmem
      unfold reachBytes at this
      exact this
    · have hmem : ((strs (ss.take len) : List (DataW H)).length + (strs (ss.drop len) : List (DataW H)).length) * Tryz.prog.bytesOf e ∈ (DataW.slice (strs (ss.take len)) (strs (ss.drop len)) : DataW H).weights Tryz.prog t := by
        simp [DataW.weights, ht]
      have := hw _ hmem
      simp only [strs, List.length_map, hbytes] at this
      unfold reachBytes at this
      omega
end Go.Proofs.YtadhkeboaapfcaaGreatDoor
