/- The frame of every law's proof: a call that hands back true and leaves all that was there as it was meets the row: true, each argument reads as it did. an argument that is a row of records, opened. The law StoreSyncs, walked. what the listed variables give the store's functions; a frame for a row that lists variables, with the world's shape kept. -/
import Derived.Test.YtikjahfeecdfgaaGreatDoorRows
import Derived.Test.YtikjahfeecdfgaaGreatDoorM00
import Derived.ProofKit
import Derived.OpenShut
import Derived.SizedLaws
import Derived.SliceStrings
import Derived.Test.YtikjahfeecdfgaaGreatDoorM09
import Derived.ChangeShapes
import Derived.ChangeArms
import Derived.Deep.Grids
import Derived.Test.YtikjahfeecdfgaaGreatDoorM02
import Derived.Lay
import Derived.LaidLaws
import Derived.LaidMore
import Derived.Lib.LaidTab
import Derived.Shelf.Vars
namespace Go.Proofs.YtikjahfeecdfgaaGreatDoor
open Go.ChangeShapes Go.WideShapes Go.ChangeAt Go.RowKit
set_option linter.unusedVariables false
set_option maxRecDepth 100000
theorem own : ownKnob Tryz.prog.godebug = none := by kernel_rfl
theorem laidOut : laidOutB Tryz.prog = true := by kernel_rfl
theorem trodAll_stays {H : Type} {enc : TypeId × Value → H} {W W' : World} (hb : Below W.heap.size W W') : ∀ (ts : List TypeId) (vs : List Value) (ds : List (DataW H)) (ps : List MemPlace),
    (∀ t ∈ ts, Tryz.prog.readableRec t = true ∧ t < Tryz.prog.types.size) → (∀ x ∈ ps, x.block < W.heap.size) →
    DataW.TrodAll enc Tryz.prog W 0 (fun _ => true) true ts vs ds ps → DataW.TrodAll enc Tryz.prog W' 0 (fun b => decide (b < W.heap.size)) true ts vs ds ps
  | [], vs, ds, ps, _, _, h => by obtain ⟨rfl, rfl, rfl⟩ := trodAll_nil h; exact trodAll_mk0
  | t :: ts, vs, ds, ps, hr, hlt, h => by
    obtain ⟨v, vs', d, ds', p, q, rfl, rfl, rfl, h1, h2⟩ := trodAll_cons h
    exact trodAll_cons_mk (Below.trod laidOut (hr t (List.mem_cons_self ..)).1 (hr t (List.mem_cons_self ..)).2 h1 hb fun x hx => hlt x (List.mem_append_left _ hx))
      (trodAll_stays hb ts vs' ds' q (fun t ht => hr t (List.mem_cons_of_mem _ ht)) (fun x hx => hlt x (List.mem_append_right _ hx)) h2)
theorem law_post {f : Func} {s : ChangeSpec} {H : Type} {enc : TypeId × Value → H} {W W' : World} {args : Array Value} {ds gs : List (DataW H)} {before : List MemPlace} {tb : TypeId}
    (hW : DataW.Whole enc Tryz.prog f.params.toList s.vars false W args.toList ds gs before)
    (hr : ∀ t ∈ f.params.toList, Tryz.prog.readableRec t = true ∧ t < Tryz.prog.types.size) (hres : f.resultTypes = #[tb]) (hbool : Tryz.prog.underlying tb = some .bool) (hv : s.vars = [])
    (hfn : (s.fn H (ds ++ gs)).results = [.lit (.bool true)] ∧ (s.fn H (ds ++ gs)).args = ds ∧ (s.fn H (ds ++ gs)).vars = []) (hb : Below W.heap.size W W') :
    s.post enc Tryz.prog f false true false false W args (.bool true) W' := by
  have hlt : ∀ x ∈ before, x.block < W.heap.size := fun x hx => by simpa using hW.lt x hx
  have hW' := hW
  obtain ⟨p, q, hA, hV, rfl, _, _⟩ := hW
  rw [hv] at hV
  obtain ⟨rfl, rfl⟩ := trodVars_none hV
  refine ⟨ds, [], p ++ [], [], p, [], hW', ?_, ?_, ?_, hb.frame _, fun h => by cases h⟩
  · rw [hfn.1, hres]
    exact trodAll_mk1 (shut_bool hbool true)
  · rw [hfn.2.1]
    exact trodAll_stays hb _ _ _ _ hr (fun x hx => hlt x (by simpa using hx)) hA
  · rw [hfn.2.2, hv]; rfl
end Go.Proofs.YtikjahfeecdfgaaGreatDoor
namespace Go.Proofs.YtikjahfeecdfgaaGreatDoor.StoW
open Go.ChangeShapes Go.WideShapes Go.ChangeAt Go.RowKit OctMath RecMath RecW
set_option linter.unusedVariables false
set_option maxRecDepth 100000
structure Ints (m : Msg) : Prop where
  kind : inI m.kind
  queue : inI m.queue
  due : inI m.due
  retry : inI m.retry
  ref : inI m.ref
  born : inI m.born
theorem ten {α : Type} (l : List α) (h : l.length = 10) : ∃ a b c d e f g h i j, l = [a, b, c, d, e, f, g, h, i, j] := by
  match l, h with
  | [a, b, c, d, e, f, g, h, i, j], _ => exact ⟨a, b, c, d, e, f, g, h, i, j, rfl⟩
section
variable {H : Type} {enc : TypeId × Value → H} {W : World}
theorem i64_in {z : Int} (h : (Lit.int .i64 z).wf = true) : -9223372036854775808 ≤ z ∧ z ≤ 9223372036854775807 := by simpa [Lit.wf, IntKind.min, IntKind.max, IntKind.signed, IntKind.bits] using h
theorem open_texts {n : Nat} {c : Value} {y : DataW H × List MemPlace} (h : DataW.trod enc Tryz.prog W 0 (fun _ => true) true n 32 [c] = some y) : ∃ a cp, ∃ ts : List (List UInt8), c = .slice a ts.length cp ∧ Strs W a (ts.map S) ∧ ts.length ≤ cp := by
  rcases open_strings Tryz.underlying32 Tryz.underlying9 (by kernel_rfl) h with ⟨hcs, _⟩ | ⟨a, len, cap, ss, hcs, _, hl, hm, hz, _, hcell, _⟩
  · obtain rfl := List.singleton_inj.1 hcs
    exact ⟨none, 0, [], rfl, fun i hi => absurd hi (by simp), Nat.le_refl _⟩
  · obtain rfl := List.singleton_inj.1 hcs
    have hz' : ss.length = cap := by rw [hz]; simp
    refine ⟨some a, cap, (ss.take len).map fun s => s.data.toList, ?_, ?_, by rw [List.length_map, List.length_take]; omega⟩
    · rw [List.length_map, List.length_take, Nat.min_eq_left (by omega)]
    · rw [List.map_map]
      have e : (S ∘ fun s : ByteArray => s.data.toList) = id := by funext s; exact S_of s
      rw [e, List.map_id]
      refine Strs.of_cells fun i hi => ?_
      have hi' : i < ss.length := by simp at hi; omega
      rw [hcell i hi']
      simp [List.getD, hi']
theorem open_truths {n : Nat} {c : Value} {y : DataW H × List MemPlace} (h : DataW.trod enc Tryz.prog W 0 (fun _ => true) true n 23 [c] = some y) : ∃ a cp, ∃ bs : List Bool, c = .slice a bs.length cp ∧ Row1 W a (bs.map .bool) ∧ bs.length ≤ 9223372036854775807 := by
  rcases Deep.open_bools Tryz.underlying23 Tryz.underlying4 (by kernel_rfl) h with ⟨hcs, _⟩ | ⟨a, len, cap, B, hcs, _, hl, hm, _, hcell⟩
  · obtain rfl := List.singleton_inj.1 hcs
    exact ⟨none, 0, [], rfl, fun i hi => absurd hi (by simp), by decide⟩
  · obtain rfl := List.singleton_inj.1 hcs
    have hm' : cap ≤ 9223372036854775807 := hm
    refine ⟨some a, cap, (List.range len).map B, by simp, fun i hi => ?_, by simp; omega⟩
    have hi' : i < len := by simpa using hi
    have hc := hcell i (by omega)
    have hs := World.cell?_spot (hcell 0 (by omega))
    obtain ⟨b, off, spot⟩ := a
    have hspot : spot = none := by simpa [Addr.add] using hs
    subst hspot
    refine ⟨b, off, rfl, ?_⟩
    simp only [List.getElem_map, List.getElem_range]
    rw [← hc]
    unfold Addr.add
    split
    · rename_i e; subst e; rfl
    · rfl
theorem open_msg {fuel : Nat} {cs : List Value} {y : DataW H × List MemPlace} (hc : cs.length = 10) (hf : DataW.trod enc Tryz.prog W 0 (fun _ => true) true fuel 34 cs = some y) :
    ∃ m a c, cs = (cellsM m a c).toList ∧ Strs W a (m.keys.map S) ∧ Ints m := by
  obtain ⟨c0, c1, c2, c3, c4, c5, c6, c7, c8, c9, rfl⟩ := ten cs hc
  obtain ⟨xs, n, _, _, _, hlen, hel⟩ := DataW.trod_struct Tryz.underlying34 hf
  have hlen' : xs.length = 10 := hlen
  have c1i : Tryz.prog.cellsOf 3 = 1 := by kernel_rfl
  have c1s : Tryz.prog.cellsOf 9 = 1 := by kernel_rfl
  have c1t : Tryz.prog.cellsOf 32 = 1 := by kernel_rfl
  match xs, hlen' with
  | [y0, y1, y2, y3, y4, y5, y6, y7, y8, y9], _ =>
    have k0 : DataW.trod enc Tryz.prog W 0 (fun _ => true) true n 3 [c0] = some y0 := by
      have h : DataW.trod enc Tryz.prog W 0 (fun _ => true) true n 3 (([c0, c1, c2, c3, c4, c5, c6, c7, c8, c9].drop 0).take (Tryz.prog.cellsOf 3)) = some y0 := hel 0 _ rfl
      rw [c1i] at h
      exact h
    have k1 : DataW.trod enc Tryz.prog W 0 (fun _ => true) true n 3 [c1] = some y1 := by
      have h : DataW.trod enc Tryz.prog W 0 (fun _ => true) true n 3 (([c0, c1, c2, c3, c4, c5, c6, c7, c8, c9].drop 1).take (Tryz.prog.cellsOf 3)) = some y1 := hel 1 _ rfl
      rw [c1i] at h
      exact h
    have k2 : DataW.trod enc Tryz.prog W 0 (fun _ => true) true n 3 [c2] = some y2 := by
      have h : DataW.trod enc Tryz.prog W 0 (fun _ => true) true n 3 (([c0, c1, c2, c3, c4, c5, c6, c7, c8, c9].drop 2).take (Tryz.prog.cellsOf 3)) = some y2 := hel 2 _ rfl
      rw [c1i] at h
      exact h
    have k3 : DataW.trod enc Tryz.prog W 0 (fun _ => true) true n 3 [c3] = some y3 := by
      have h : DataW.trod enc Tryz.prog W 0 (fun _ => true) true n 3 (([c0, c1, c2, c3, c4, c5, c6, c7, c8, c9].drop 3).take (Tryz.prog.cellsOf 3)) = some y3 := hel 3 _ rfl
      rw [c1i] at h
      exact h
    have k4 : DataW.trod enc Tryz.prog W 0 (fun _ => true) true n 3 [c4] = some y4 := by
      have h : DataW.trod enc Tryz.prog W 0 (fun _ => true) true n 3 (([c0, c1, c2, c3, c4, c5, c6, c7, c8, c9].drop 4).take (Tryz.prog.cellsOf 3)) = some y4 := hel 4 _ rfl
      rw [c1i] at h
      exact h
    have k5 : DataW.trod enc Tryz.prog W 0 (fun _ => true) true n 3 [c5] = some y5 := by
      have h : DataW.trod enc Tryz.prog W 0 (fun _ => true) true n 3 (([c0, c1, c2, c3, c4, c5, c6, c7, c8, c9].drop 5).take (Tryz.prog.cellsOf 3)) = some y5 := hel 5 _ rfl
      rw [c1i] at h
      exact h
    have k6 : DataW.trod enc Tryz.prog W 0 (fun _ => true) true n 9 [c6] = some y6 := by
      have h : DataW.trod enc Tryz.prog W 0 (fun _ => true) true n 9 (([c0, c1, c2, c3, c4, c5, c6, c7, c8, c9].drop 6).take (Tryz.prog.cellsOf 9)) = some y6 := hel 6 _ rfl
      rw [c1s] at h
      exact h
    have k7 : DataW.trod enc Tryz.prog W 0 (fun _ => true) true n 9 [c7] = some y7 := by
      have h : DataW.trod enc Tryz.prog W 0 (fun _ => true) true n 9 (([c0, c1, c2, c3, c4, c5, c6, c7, c8, c9].drop 7).take (Tryz.prog.cellsOf 9)) = some y7 := hel 7 _ rfl
      rw [c1s] at h
      exact h
    have k8 : DataW.trod enc Tryz.prog W 0 (fun _ => true) true n 9 [c8] = some y8 := by
      have h : DataW.trod enc Tryz.prog W 0 (fun _ => true) true n 9 (([c0, c1, c2, c3, c4, c5, c6, c7, c8, c9].drop 8).take (Tryz.prog.cellsOf 9)) = some y8 := hel 8 _ rfl
      rw [c1s] at h
      exact h
    have k9 : DataW.trod enc Tryz.prog W 0 (fun _ => true) true n 32 [c9] = some y9 := by
      have h : DataW.trod enc Tryz.prog W 0 (fun _ => true) true n 32 (([c0, c1, c2, c3, c4, c5, c6, c7, c8, c9].drop 9).take (Tryz.prog.cellsOf 32)) = some y9 := hel 9 _ rfl
      rw [c1t] at h
      exact h
    obtain ⟨z0, e0, _, w0⟩ := DataW.trod_int Tryz.underlying3 k0
    obtain rfl := List.singleton_inj.1 e0
    obtain ⟨z1, e1, _, w1⟩ := DataW.trod_int Tryz.underlying3 k1
    obtain rfl := List.singleton_inj.1 e1
    obtain ⟨z2, e2, _, w2⟩ := DataW.trod_int Tryz.underlying3 k2
    obtain rfl := List.singleton_inj.1 e2
    obtain ⟨z3, e3, _, w3⟩ := DataW.trod_int Tryz.underlying3 k3
    obtain rfl := List.singleton_inj.1 e3
    obtain ⟨z4, e4, _, w4⟩ := DataW.trod_int Tryz.underlying3 k4
    obtain rfl := List.singleton_inj.1 e4
    obtain ⟨z5, e5, _, w5⟩ := DataW.trod_int Tryz.underlying3 k5
    obtain rfl := List.singleton_inj.1 e5
    obtain ⟨z6, e6, _, _⟩ := DataW.trod_string Tryz.underlying9 k6
    obtain rfl := List.singleton_inj.1 e6
    obtain ⟨l6, rfl⟩ : ∃ l, z6 = S l := ⟨z6.data.toList, (S_of z6).symm⟩
    obtain ⟨z7, e7, _, _⟩ := DataW.trod_string Tryz.underlying9 k7
    obtain rfl := List.singleton_inj.1 e7
    obtain ⟨l7, rfl⟩ : ∃ l, z7 = S l := ⟨z7.data.toList, (S_of z7).symm⟩
    obtain ⟨z8, e8, _, _⟩ := DataW.trod_string Tryz.underlying9 k8
    obtain rfl := List.singleton_inj.1 e8
    obtain ⟨l8, rfl⟩ : ∃ l, z8 = S l := ⟨z8.data.toList, (S_of z8).symm⟩
    obtain ⟨a9, p9, t9, rfl, h9, _⟩ := open_texts k9
    exact ⟨⟨z0, z1, z2, z3, z4, z5, l6, l7, l8, t9⟩, a9, p9, rfl, h9, ⟨i64_in w0, i64_in w1, i64_in w2, i64_in w3, i64_in w4, i64_in w5⟩⟩
theorem list_of_ex {α : Type} {P : Nat → α → Prop} : ∀ n, (∀ i, i < n → ∃ x, P i x) → ∃ l : List α, l.length = n ∧ ∀ i (h : i < l.length), P i l[i]
  | 0, _ => ⟨[], rfl, fun i h => absurd h (Nat.not_lt_zero _)⟩
  | n + 1, h => by
    obtain ⟨l, h1, h2⟩ := list_of_ex n fun i hi => h i (by omega)
    obtain ⟨x, hx⟩ := h n (by omega)
    refine ⟨l ++ [x], by simp [h1], fun i hi => ?_⟩
    by_cases h3 : i < l.length
    · rw [List.getElem_append_left h3]; exact h2 i h3
    · have : i = n := by simp at hi; omega
      subst this
      rw [List.getElem_append_right (by omega)]
      simpa [h1] using hx
theorem open_msgs {fuel : Nat} {v : Value} {y : DataW H × List MemPlace} (h : DataW.trod enc Tryz.prog W 0 (fun _ => true) true fuel 22 [v] = some y) :
    ∃ a c, ∃ ms : List (Msg × Option Addr × Nat), v = .slice a ms.length c ∧ MsgRow W a ms ∧ (∀ p ∈ ms, Ints p.1) ∧ ms.length ≤ 9223372036854775807 := by
  have hc10 : Tryz.prog.cellsOf 34 = 10 := by kernel_rfl
  rcases DataW.trod_slice Tryz.underlying22 h with ⟨hcs, _⟩ | ⟨a, len, cap, elems, rest, n, _, hcs, _, _, hl, hm, hlen, hel, _, _⟩
  · obtain rfl := List.singleton_inj.1 hcs
    exact ⟨none, 0, [], rfl, fun i hi => absurd hi (Nat.not_lt_zero _), (fun p hp => by cases hp), by decide⟩
  · obtain rfl := List.singleton_inj.1 hcs
    have each : ∀ i, i < len → ∃ x : Msg × Option Addr × Nat, (∀ j v, (cellsM x.1 x.2.1 x.2.2)[j]? = some v → W.cell? ((a.add (i * 10)).add j) = some v) ∧ Strs W x.2.1 (x.1.keys.map S) ∧ Ints x.1 := fun i hi => by
      have h1 := hel i hi
      have h2 : i < elems.length := by omega
      rw [List.getElem?_eq_getElem h2, hc10, Option.bind_eq_some_iff] at h1
      obtain ⟨cs, h3, h4⟩ := h1
      obtain ⟨_, h5, h6⟩ := World.cells?_some h3
      obtain ⟨m, b, c, rfl, h7, h8⟩ := open_msg h5 h4
      refine ⟨(m, b, c), fun j v hv => ?_, h7, h8⟩
      have hj : j < 10 := by
        have := (Array.getElem?_eq_some_iff.1 hv).1
        exact this
      rw [h6 j hj, Array.getElem?_toList]
      exact hv
    obtain ⟨ms, h1, h2⟩ := list_of_ex len each
    have hm' : cap ≤ 9223372036854775807 := hm
    refine ⟨some a, cap, ms, by rw [h1], fun i hi => ?_, fun p hp => ?_, by omega⟩
    · obtain ⟨h3, h4, h5⟩ := h2 i hi
      have h0 := World.cell?_spot ((h2 0 (by omega)).1 0 _ rfl)
      obtain ⟨b, off, spot⟩ := a
      have hspot : spot = none := by simpa [Addr.add] using h0
      subst hspot
      refine ⟨b, off, rfl, fun j v hv => ?_, h4⟩
      rw [← h3 j v hv]
      congr 1
      unfold Addr.add
      split <;> split <;> simp_all <;> omega
    · obtain ⟨i, hi, rfl⟩ := List.getElem_of_mem hp
      exact (h2 i hi).2.2
end
end Go.Proofs.YtikjahfeecdfgaaGreatDoor.StoW
namespace Go.Proofs.YtikjahfeecdfgaaGreatDoor.StoW
open Go.RowKit Go.MapKept OctMath RecMath RecW TapeMath DskW SegW MapG TapeW PendW CacheW CqW
set_option linter.unusedVariables false
set_option linter.unusedSimpArgs false
set_option maxRecDepth 100000
theorem ok_of_great {m : Msg} (h : Ints m) (hg : greatM m = false) : MsgOk m := by
  unfold greatM great1 at hg
  simp only [Bool.or_eq_false_iff, decide_eq_false_iff_not, List.any_eq_false, decide_eq_true_eq] at hg
  obtain ⟨⟨g1, g2, g3, g4⟩, g5⟩ := hg
  exact ⟨h.kind, h.queue, h.due, h.retry, h.ref, h.born, by omega, by omega, by omega, by omega, fun t ht => by have := g5 t ht; omega⟩
theorem put_recs {base B : Nat} {w w2 : World} {S0 S1 : StoD} {m : Msg} {sy : Bool} (h : StoAt base w S0) (h1 : StoAt base w2 S1) (hp : Put B S0 S1 m sy) :
    (S0.T.R.e + (fillOf S0.T.R.e m).length, m) ∈ S1.T.O.recs ∧ S1.T.O.recs.length = S0.T.O.recs.length + 1 ∧ S1.T.R.e = S0.T.R.e + (fillOf S0.T.R.e m).length + (recL m).length := by
  have e0 := bytes_e h.tape
  have e1 := bytes_e h1.tape
  have hr : S1.T.O.recs = S0.T.O.recs ++ [(S0.T.R.e + (fillOf S0.T.R.e m).length, m)] := by
    rw [h1.tape.recs, hp.its, hp.b, recs_app, ← e0, recs_laid, ← h.tape.recs]
  refine ⟨by rw [hr]; simp, by rw [hr]; simp, ?_⟩
  rw [e1, hp.b, hp.its, bytesL_app, bytes_laid, List.length_append, List.length_append]
  omega
structure LoopI (base : Nat) (W w : World) (sb db ob most k : Nat) (last : Int) (S0 : StoD) : Prop where
  sto : StoAt base w S0
  quiet : Quiet S0.T.D
  blk : S0.blk = sb
  dblk : S0.T.D.blk = db
  oblk : S0.T.O.blk = ob
  room : (((most - k) * 1531 : Nat) : Int) ≤ S0.T.D.room
  wl : S0.T.D.waits.length ≤ 2 * k
  e : S0.T.R.e ≤ 1531 * k
  rl : S0.T.O.recs.length ≤ k
  last : last < (S0.T.R.e : Int) ∧ -1 ≤ last
  ft : ∀ j, S0.foot j → base ≤ j
  low : Below base W w
theorem LoopI.below {base : Nat} {W w w' : World} {sb db ob most k : Nat} {last : Int} {S0 : StoD} (h : LoopI base W w sb db ob most k last S0) (hb : Below w.heap.size w w') (hs : base ≤ w.heap.size) : LoopI base W w' sb db ob most k last S0 :=
  { h with sto := h.sto.below hb, low := h.low.trans (hb.mono hs) }
theorem LoopI.skip {base : Nat} {W w : World} {sb db ob most k : Nat} {last : Int} {S0 : StoD} (h : LoopI base W w sb db ob most k last S0) : LoopI base W w sb db ob most (k + 1) last S0 :=
  { h with room := by have := h.room; omega, wl := by have := h.wl; omega, e := by have := h.e; omega, rl := by have := h.rl; omega }
theorem LoopI.next {base : Nat} {W w w2 : World} {sb db ob most k : Nat} {last : Int} {S0 S1 : StoD} {m : Msg} {sy : Bool} (h : LoopI base W w sb db ob most k last S0) (hk : k < most) (hr : rightL m = true) (h0 : m.kind ≠ 0) (hs : base ≤ w.heap.size)
    (h1 : StoAt base w2 S1) (hp : Put w.heap.size S0 S1 m sy) (hm : Mod S0.foot w w2) : LoopI base W w2 sb db ob most (k + 1) ((S0.T.R.e + (fillOf S0.T.R.e m).length : Nat) : Int) S1 := by
  obtain ⟨_, r2, r3⟩ := put_recs h.sto h1 hp
  obtain ⟨l1, l2⟩ := rec_len hr h0
  have hf := fillOf_len S0.T.R.e m (loose_e h.sto.tape)
  have hroom := room_le S0.T.R.e
  have hlen : (bytesL (laidOf S0.T.R.e m)).length = (fillOf S0.T.R.e m).length + (recL m).length := by rw [bytes_laid, List.length_append]
  have hfl : (fillOf S0.T.R.e m).length ≤ 1024 := by
    rcases hf with ⟨e, _⟩ | ⟨e, _⟩
    · rw [e]; exact Nat.zero_le _
    · omega
  refine ⟨h1, hp.quiet, by rw [hp.same]; exact h.blk, hp.dblk.trans h.dblk, hp.oblk.trans h.oblk, ?_, ?_, ?_, ?_, ?_, fun j hj => (hp.foot j hj).elim (h.ft j) fun h2 => by omega, h.low.trans (hm.to_below _ hs h.ft)⟩
  · rw [hp.room, hlen]; have := h.room; omega
  · have := hp.wl; have := h.wl; omega
  · have := h.e; omega
  · have := h.rl; omega
  · constructor <;> omega
theorem LoopI.fits {base : Nat} {W w : World} {sb db ob most k : Nat} {last : Int} {S0 : StoD} {m : Msg} (h : LoopI base W w sb db ob most k last S0) (hk : k < most) (hr : rightL m = true) (h0 : m.kind ≠ 0) : (((fillOf S0.T.R.e m).length + (recL m).length : Nat) : Int) ≤ S0.T.D.room ∧ (fillOf S0.T.R.e m).length ≤ 1024 := by
  obtain ⟨l1, l2⟩ := rec_len hr h0
  have hf := fillOf_len S0.T.R.e m (loose_e h.sto.tape)
  have hroom := room_le S0.T.R.e
  have hfl : (fillOf S0.T.R.e m).length ≤ 1024 := by
    rcases hf with ⟨e, _⟩ | ⟨e, _⟩
    · rw [e]; exact Nat.zero_le _
    · omega
  refine ⟨?_, hfl⟩
  have := h.room
  omega
theorem MsgRow.below {w w' : World} {a : Option Addr} {ms : List (Msg × Option Addr × Nat)} (h : MsgRow w a ms) (hb : Below w.heap.size w w') : MsgRow w' a ms := fun i hi => by
  obtain ⟨g, off, h1, h2, h3⟩ := h i hi
  refine ⟨g, off, h1, fun j v hv => ?_, h3.below hb⟩
  have h4 := h2 j v hv
  rw [hb.cell (cell_lt h4)]; exact h4
set_option maxHeartbeats 12800000 in
theorem syncs_any (ms : List (Msg × Option Addr × Nat)) (bs : List Bool) (a0 ab : Option Addr) (c0 cb : Nat) (W : World) (hT : Tab W) (hM : MsgRow W a0 ms) (hI : ∀ p ∈ ms, Ints p.1) (hB : Row1 W ab (bs.map .bool)) (hml : ms.length ≤ 9223372036854775807) (hbl : bs.length ≤ 9223372036854775807) :
    Calls Tryz.prog 3 #[.slice a0 ms.length c0, .slice ab bs.length cb] W fun e w' => e = .returned (.bool true) ∧ Below W.heap.size W w' := by
  have HAW := Lib.hid (awake_any W hT)
  have HTB : Hid (∀ w, Below W.heap.size W w → TabB W.heap.size w) := fun w hb => ⟨W, hT, Nat.le_refl _, hb⟩
  have HM := Lib.hid hM
  have HI := Lib.hid hI
  have HB := Lib.hid hB
  clear hT hM hI hB
  go_enter Tryz.func3, Tryz.ntmps3
  go_wp2_with fail
  refine HAW.out.mono ?_
  rintro e w1 ⟨rfl, hb1⟩
  have HB1 := Lib.hid hb1
  clear hb1 HAW
  by_cases h40 : 40 < ms.length
  · have h40' : (40 : Int) < (ms.length : Int) := by omega
    go_wp2_with fail
    go_ret
    exact ⟨rfl, HB1.out⟩
  have h40' : (ms.length : Int) ≤ (40 : Int) := by omega
  have HGR := Lib.hid (great_any ms a0 c0 w1 (MsgRow.below HM.out HB1.out) (by omega))
  go_wp2_with fail
  refine HGR.out.mono ?_
  rintro e w2 ⟨rfl, hb2⟩
  have HB2 := Lib.hid (HB1.out.trans (hb2.mono HB1.out.size))
  clear hb2 HGR HB1
  obtain ⟨gr, hgr⟩ : ∃ gr, gr = ms.any fun p => greatM p.1 := ⟨_, rfl⟩
  rw [← hgr]
  cases gr with
  | true =>
    clear hgr
    go_wp2_with fail
    go_ret
    exact ⟨rfl, HB2.out⟩
  | false =>
  have HNG : Hid (∀ p ∈ ms, greatM p.1 = false) := fun p hp => by
    have := List.any_eq_false.1 hgr.symm p hp
    simpa using this
  clear hgr
  have HN1 := Lib.hid (DskW.new_any 1048576 W.heap.size w2 HB2.out.size)
  go_wp2_with fail
  refine HN1.out.mono ?_
  rintro e w3 ⟨D, rfl, hD, hb3, h11, h12, h13, h14, h15, h16, h17, h18⟩
  clear HN1
  have hB3 : Below W.heap.size W w3 := HB2.out.trans (hb3.mono HB2.out.size)
  have HN2 := Lib.hid (DskW.new_any 4194304 W.heap.size w3 hB3.size)
  have H1 : Hid (DiskAt W.heap.size w3 D ∧ Below W.heap.size W w3 ∧ Quiet D ∧ D.files = [] ∧ D.waits = [] ∧ D.room = 1048576) := ⟨hD, hB3, ⟨h13, h14⟩, h15, h16, room_new h15 (by rw [h18]; rfl)⟩
  clear hD hb3 h11 h12 h13 h14 h15 h16 h17 h18 hB3
  go_wp2_with fail
  refine HN2.out.mono ?_
  rintro e w4 ⟨D2, rfl, hD2, hb4, h11, h12, h13, h14, h15, h16, h17, h18⟩
  clear HN2
  obtain ⟨hD, hb1, hq1, hf1, hw1, hr1⟩ := H1.out
  have hB4 : Below W.heap.size W w4 := hb1.trans (hb4.mono hb1.size)
  have HB4 := Lib.hid hB4
  have hbs := hB4.size
  have HO := Lib.hid (sopen_fresh (base := W.heap.size) 0 w4 (hD.below hb4) hq1 hf1 hw1 hbs (HTB.out w4 hB4) hD2 ⟨h13, h14⟩ h15 (by have := room_new (c := 4194304) h15 (by rw [h18]; rfl); omega) h16
    (fun k hk h2 => by have h3 := hD.lt hk; have h4 := foot_new hD2 h15 h17 h11 h12 k h2; omega) (by decide))
  rw [show ((0 : Nat) : Int) = 0 from rfl] at HO
  have HF : Hid (∀ k, D.foot k ∨ D2.foot k → W.heap.size ≤ k) := fun k hk => hk.elim (fun h => hD.base_le h) fun h => hD2.base_le h
  clear hD2 hb4 h11 h12 h13 h14 h15 h16 h17 h18 hD hb1 hq1 hf1 hw1 hB4 hbs HB2
  go_wp2_with fail
  refine HO.out.mono ?_
  rintro e w5 ⟨S0, rfl, hS, hnow, hits, hb, hsy, hwt, hq, hdb, hrm, hfs, hm, hft⟩
  clear HO
  have hB5 : Below W.heap.size W w5 := HB4.out.trans (hm.to_below _ HB4.out.size HF.out)
  have HL5 : Hid (LoopI W.heap.size W w5 S0.blk D.blk S0.T.O.blk 40 0 (-1) S0) := ⟨hS, hq, rfl, hdb, rfl, by rw [hrm, H1.out.2.2.2.2.2]; decide, by rw [hwt]; decide, by rw [e_zero hS.tape hits hb]; decide, by rw [recs_zero hS.tape hits]; decide, ⟨by omega, by decide⟩, fun j hj => (hft j hj).elim (fun h => HF.out j (.inl h)) fun h => by have := HB4.out.size; omega, hB5⟩
  clear hS hnow hits hb hsy hwt hq hdb hrm hfs hm hft hB5 HF HB4 H1
  generalize S0.blk = sb at *
  generalize S0.T.O.blk = ob at *
  generalize D.blk = db at *
  go_wp2_with fail
  go_loopw [36, 8] (fun i l wr => ∃ (k : Nat) (last : Int), k ≤ ms.length ∧ i = .int .i64 (k : Int) ∧ l = .int .i64 last ∧ ∃ S0, Hid (LoopI W.heap.size W wr sb db ob 40 k last S0)) (fun i _ _ => ms.length - (intOf i).toNat)
  case atStart => exact ⟨0, -1, Nat.zero_le _, rfl, rfl, S0, HL5⟩
  case round =>
    clear HL5
    obtain ⟨k, last, hk, rfl, rfl, S0, HS⟩ := hrel
    obtain ⟨wA, rfl⟩ : ∃ wA : World, wA = wr := ⟨_, rfl⟩
    by_cases hlt : k < ms.length
    · obtain ⟨g, off, rfl, hcell, hkeys⟩ := MsgRow.below HM.out HS.out.low k hlt
      obtain ⟨p, hp⟩ : ∃ p, p = ms[k] := ⟨_, rfl⟩
      have HOK : Hid (MsgOk p.1) := ok_of_great (HI.out p (by rw [hp]; exact List.getElem_mem hlt)) (HNG.out p (by rw [hp]; exact List.getElem_mem hlt))
      have hkw := (HM.out k hlt).choose_spec.choose_spec.2.2
      rw [← hp] at hcell hkeys hkw
      clear hp
      obtain ⟨m, a, c⟩ := p
      have HKW : Hid (∀ w, Below W.heap.size W w → Strs w a (m.keys.map S)) := fun w hb => Strs.below hkw hb
      clear hkw
      have HK := Lib.hid hkeys
      have k0 : wA.cell? ⟨g, off + k * 10, none⟩ = some (.int .i64 m.kind) := hcell 0 _ rfl
      have k1 : wA.cell? ⟨g, off + k * 10 + 1, none⟩ = some (.int .i64 m.queue) := hcell 1 _ rfl
      have k2 : wA.cell? ⟨g, off + k * 10 + 2, none⟩ = some (.int .i64 m.due) := hcell 2 _ rfl
      have k3 : wA.cell? ⟨g, off + k * 10 + 3, none⟩ = some (.int .i64 m.retry) := hcell 3 _ rfl
      have k4 : wA.cell? ⟨g, off + k * 10 + 4, none⟩ = some (.int .i64 m.ref) := hcell 4 _ rfl
      have k5 : wA.cell? ⟨g, off + k * 10 + 5, none⟩ = some (.int .i64 m.born) := hcell 5 _ rfl
      have k6 : wA.cell? ⟨g, off + k * 10 + 6, none⟩ = some (.string (S m.topic)) := hcell 6 _ rfl
      have k7 : wA.cell? ⟨g, off + k * 10 + 7, none⟩ = some (.string (S m.tag)) := hcell 7 _ rfl
      have k8 : wA.cell? ⟨g, off + k * 10 + 8, none⟩ = some (.string (S m.body)) := hcell 8 _ rfl
      have k9 : wA.cell? ⟨g, off + k * 10 + 9, none⟩ = some (.slice a m.keys.length c) := hcell 9 _ rfl
      clear hcell hkeys
      have HB0 : Hid (Below wA.heap.size wA (wA.alloc (.cells #[.int .i64 m.kind, .int .i64 m.queue, .int .i64 m.due, .int .i64 m.retry, .int .i64 m.ref, .int .i64 m.born, .string (S m.topic), .string (S m.tag), .string (S m.body), .slice a m.keys.length c] 34))) := (Below.refl _ wA).alloc (Nat.le_refl _) _
      have HX0 : Hid (RecW.Boxed (wA.alloc (.cells #[.int .i64 m.kind, .int .i64 m.queue, .int .i64 m.due, .int .i64 m.retry, .int .i64 m.ref, .int .i64 m.born, .string (S m.topic), .string (S m.tag), .string (S m.body), .slice a m.keys.length c] 34)) wA.heap.size #[.int .i64 m.kind, .int .i64 m.queue, .int .i64 m.due, .int .i64 m.retry, .int .i64 m.ref, .int .i64 m.born, .string (S m.topic), .string (S m.tag), .string (S m.body), .slice a m.keys.length c]) := RecW.Boxed.new wA _ _
      have HZ0 : Hid ((wA.alloc (.cells #[.int .i64 m.kind, .int .i64 m.queue, .int .i64 m.due, .int .i64 m.retry, .int .i64 m.ref, .int .i64 m.born, .string (S m.topic), .string (S m.tag), .string (S m.body), .slice a m.keys.length c] 34)).heap.size = wA.heap.size + 1) := by exact Array.size_push _
      have HS0 := Lib.hid (HS.out.below HB0.out HS.out.low.size)
      have HK0 := Lib.hid (Strs.below HK.out HB0.out)
      have HLT : Hid (∀ j, S0.foot j → j < wA.heap.size) := fun j hj => HS.out.sto.lt hj
      go_upto_region 13 with fail
      generalize wA.alloc (.cells #[.int .i64 m.kind, .int .i64 m.queue, .int .i64 m.due, .int .i64 m.retry, .int .i64 m.ref, .int .i64 m.born, .string (S m.topic), .string (S m.tag), .string (S m.body), .slice a m.keys.length c] 34) = w1 at *
      clear k0 k1 k2 k3 k4 k5 k6 k7 k8 k9 HK
      obtain ⟨A, hA⟩ : ∃ A, wA.heap.size = A := ⟨_, rfl⟩
      rw [hA] at HX0 HZ0 HLT ⊢
      have HAA := Lib.hid hA
      clear hA
      have k0 : w1.cell? ⟨A, 0, none⟩ = some (.int .i64 m.kind) := HX0.out 0 _ rfl
      have k1 : w1.cell? ⟨A, 1, none⟩ = some (.int .i64 m.queue) := HX0.out 1 _ rfl
      have k2 : w1.cell? ⟨A, 2, none⟩ = some (.int .i64 m.due) := HX0.out 2 _ rfl
      have k3 : w1.cell? ⟨A, 3, none⟩ = some (.int .i64 m.retry) := HX0.out 3 _ rfl
      have k4 : w1.cell? ⟨A, 4, none⟩ = some (.int .i64 m.ref) := HX0.out 4 _ rfl
      have k5 : w1.cell? ⟨A, 5, none⟩ = some (.int .i64 m.born) := HX0.out 5 _ rfl
      have k6 : w1.cell? ⟨A, 6, none⟩ = some (.string (S m.topic)) := HX0.out 6 _ rfl
      have k7 : w1.cell? ⟨A, 7, none⟩ = some (.string (S m.tag)) := HX0.out 7 _ rfl
      have k8 : w1.cell? ⟨A, 8, none⟩ = some (.string (S m.body)) := HX0.out 8 _ rfl
      have k9 : w1.cell? ⟨A, 9, none⟩ = some (.slice a m.keys.length c) := HX0.out 9 _ rfl
      have HSB : Hid (Below W.heap.size W w1) := HS0.out.low
      have HPA : Hid (∀ sy, (rightL m = false ∨ m.kind = 0) → Calls Tryz.prog 10 #[.pointer (some ⟨sb, 0, none⟩), .agg #[.int .i64 m.kind, .int .i64 m.queue, .int .i64 m.due, .int .i64 m.retry, .int .i64 m.ref, .int .i64 m.born, .string (S m.topic), .string (S m.tag), .string (S m.body), .slice a m.keys.length c], .bool sy] w1 fun e w' => e = .returned (.tuple #[.int .i64 0, .int .i64 1]) ∧ Below w1.heap.size w1 w') := fun sy hr => by
        have := put_arg m sy HOK.out hr a c w1 HS0.out.sto HK0.out
        rw [HS0.out.blk] at this
        exact this
      obtain ⟨idn, hidn⟩ : ∃ idn : Nat, idn = S0.T.R.e + (fillOf S0.T.R.e m).length := ⟨_, rfl⟩
      have HIDN := Lib.hid hidn
      have HPO : Hid (∀ sy, rightL m = true → m.kind ≠ 0 → Calls Tryz.prog 10 #[.pointer (some ⟨sb, 0, none⟩), .agg #[.int .i64 m.kind, .int .i64 m.queue, .int .i64 m.due, .int .i64 m.retry, .int .i64 m.ref, .int .i64 m.born, .string (S m.topic), .string (S m.tag), .string (S m.body), .slice a m.keys.length c], .bool sy] w1 fun e w' => e = .returned (.tuple #[.int .i64 (idn : Int), .int .i64 0]) ∧ ∃ S1, StoAt W.heap.size w' S1 ∧ Put w1.heap.size S0 S1 m sy ∧ Mod S0.foot w1 w') := fun sy hr h0 => by
        have hf := HS0.out.fits (by omega) hr h0
        have := put_ok m sy HOK.out hr h0 a c w1 HS0.out.sto HK0.out HS0.out.quiet (HTB.out w1 HSB.out) HSB.out.size hf.1 (by have := HS0.out.wl; omega) (by have := HS0.out.e; omega) (by have := HS0.out.rl; omega)
        rw [HS0.out.blk, ← hidn] at this
        exact this
      have hid1 : rightL m = true → m.kind ≠ 0 → last < (idn : Int) ∧ (idn : Int) ≤ 100000 := fun hr h0 => by
        have hf := HS0.out.fits (by omega) hr h0
        have := HS0.out.last
        have := HS0.out.e
        omega
      clear hidn
      have hks : (k : Int) < (bs.length : Int) ∨ (bs.length : Int) ≤ (k : Int) := by omega
      by_cases hr : rightL m = true ∧ m.kind ≠ 0
      · rcases hks with hks | hks
        · obtain ⟨gb, ob2, rfl, hcb⟩ := HB.out k (by rw [List.length_map]; omega)
          rw [List.getElem_map] at hcb
          have hcb1 : w1.cell? ⟨gb, ob2 + k, none⟩ = some (.bool (bs[k]'(by omega))) := by rw [HSB.out.cell (cell_lt hcb)]; exact hcb
          clear hcb
          generalize bs[k]'(by omega) = sy at *
          cases sy with
          | false =>
            go_wp2_with fail
            refine (HPO.out _ hr.1 hr.2).mono ?_
            rintro e w2 ⟨rfl, S1, hS1, hput, hm2⟩
            have hL2 := HS0.out.next (by omega) hr.1 hr.2 HSB.out.size hS1 hput hm2
            rw [← HIDN.out] at hL2
            have HL2 := Lib.hid hL2
            have HBX : Hid (∀ (j : Nat) (v : Value), #[.int .i64 m.kind, .int .i64 m.queue, .int .i64 m.due, .int .i64 m.retry, .int .i64 m.ref, .int .i64 m.born, .string (S m.topic), .string (S m.tag), .string (S m.body), .slice a m.keys.length c][j]? = some v → w2.cell? ⟨A, j, none⟩ = some v) := fun j v hv => by
              rw [hm2.cell (p := ⟨A, j, none⟩) (by have := HZ0.out; show A < _; omega) (fun h2 => by have := HLT.out A h2; omega)]
              exact HX0.out j v hv
            have HBA : Hid (A < w2.heap.size) := by have := HZ0.out; have := hm2.size; show A < _; omega
            have HK2 : Hid (Strs w2 a (m.keys.map S)) := HKW.out w2 HL2.out.low
            have HMEM : Hid ((idn, m) ∈ S1.T.O.recs) := by have := (put_recs HS0.out.sto hS1 hput).1; rw [← HIDN.out] at this; exact this
            have HWT : Hid (∀ w, RecW.ExtR w2.drew w → Calls Tryz.prog 11 #[.pointer (some ⟨db, 0, none⟩)] w fun e w' => e = .returned (.int .i64 (S1.T.D.waits.length : Int)) ∧ w' = w) := fun w hw => by
              have := DskW.waits_any w (hS1.tape.whole.dsk.below ((Below.refl _ w2).drew.trans hw))
              rw [HL2.out.dblk] at this
              exact this
            have HC0 : Hid (∀ w, RecW.ExtR w2.drew w → w.cell? ⟨sb, 0, none⟩ = some (.pointer (some ⟨ob, 0, none⟩))) := fun w hw => by
              have : w.cell? ⟨S1.blk, 0, none⟩ = some (.pointer (some ⟨S1.T.O.blk, 0, none⟩)) := (hS1.below ((Below.refl _ w2).drew.trans hw)).cell 0 _ rfl
              rw [HL2.out.blk, HL2.out.oblk] at this
              exact this
            obtain ⟨hw, hse⟩ : S1.T.D.waits ≠ [] ∧ S1.T.R.synced = S0.T.R.synced := hput.waits
            have hw1 : (0 : Int) < (S1.T.D.waits.length : Int) := by have := List.length_pos_iff.2 hw; omega
            generalize (S1.T.D.waits.length : Int) = wn at *
            clear hw hse
            obtain ⟨hid2, hid3⟩ := hid1 hr.1 hr.2
            have HRD : Hid (∀ w, Below w2.heap.size w2 w → Calls Tryz.prog 14 #[.pointer (some ⟨ob, 0, none⟩), .int .i64 (idn : Int)] w fun e w' => ∃ a c, e = .returned (.tuple #[.agg #[.int .i64 m.kind, .int .i64 m.queue, .int .i64 m.due, .int .i64 m.retry, .int .i64 m.ref, .int .i64 m.born, .string (S m.topic), .string (S m.tag), .string (S m.body), .slice a m.keys.length c], .int .i64 0]) ∧ Strs w' a (m.keys.map S) ∧ Below w.heap.size w w') := fun w hb => by
              have := TapeW.tread_any idn m w (hS1.tape.below hb) hput.quiet.up ((HTB.out w2 HL2.out.low).below hb) (Nat.le_trans HL2.out.low.size hb.size) HMEM.out
              rw [HL2.out.oblk] at this
              exact this.mono fun e w' ⟨a, c, h1, h2, h3, _⟩ => ⟨a, c, h1, h2, h3⟩
            clear hS1 hput hm2 hL2 HPO HPA k0 k1 k2 k3 k4 k5 k6 k7 k8 k9 HS HS0 hid1
            go_wp2_with fail
            refine GrowN.wp_region_n 33 [none, none, some (.inl (.bool false)), none, none, none, none, none, none, none, none, none, none, none, none, none, none, none, none, none, none, none, none, none, none, none, none, none, none, some (.inl (.int .i64 wn)), some (.inl (.bool false)), none, none] RecW.ExtR (by kernel_rfl) (by kernel_rfl) (by kernel_rfl) RecW.ExtR.refl (fun _ _ _ => RecW.ExtR.trans) ?_ ?_
            · intro K hK Y hY l v w w' hR h
              simp only [List.mem_cons, List.not_mem_nil, or_false] at hK
              rcases hK with rfl | rfl | rfl | rfl | rfl | rfl | rfl | rfl | rfl | rfl | rfl | rfl | rfl | rfl | rfl | rfl | rfl | rfl | rfl | rfl | rfl | rfl | rfl | rfl | rfl | rfl | rfl | rfl | rfl | rfl | rfl | rfl | rfl <;> simp only [reduceCtorEq, Option.some.injEq, Sum.inr.injEq] at hY
            simp only [List.take_succ_cons, List.take_zero, List.drop_succ_cons, List.drop_zero]
            iterate 2
              refine GrowN.g_det rfl ?_
              apply Exists.intro
              refine ⟨fun w hw hF => ?_, ?_⟩
              · clear hF
                go_simp
                exact ⟨rfl, RecW.ExtR.refl _⟩
              simp only [Act.put, List.setIfInBounds_toArray, List.set_cons_zero, List.set_cons_succ]
            refine GrowN.g_con rfl (fun w hw hF => ?_) ?_
            · clear hF
              go_simp
              first | exact RecW.ExtR.refl _ | (exact ⟨by omega, RecW.ExtR.refl _⟩) | simp
            iterate 3
              simp only [Act.put, List.setIfInBounds_toArray, List.set_cons_zero, List.set_cons_succ]
              refine GrowN.g_det rfl ?_
              apply Exists.intro
              refine ⟨fun w hw hF => ?_, ?_⟩
              · clear hF
                go_simp
                exact ⟨rfl, RecW.ExtR.refl _⟩
            iterate 16
              simp only [Act.put, List.setIfInBounds_toArray, List.set_cons_zero, List.set_cons_succ]
              refine GrowN.g_skip rfl ?_
            iterate 7
              simp only [Act.put, List.setIfInBounds_toArray, List.set_cons_zero, List.set_cons_succ]
              refine GrowN.g_det rfl ?_
              apply Exists.intro
              refine ⟨fun w hw hF => ?_, ?_⟩
              · clear hF
                go_simp
                exact ⟨rfl, RecW.ExtR.refl _⟩
            simp only [Act.put, List.setIfInBounds_toArray, List.set_cons_zero, List.set_cons_succ]
            refine GrowN.g_con rfl (fun w hw hF => ?_) ?_
            · clear hF
              go_simp
              exact (HWT.out w hw).mono fun e w' h => ⟨_, h.1, rfl, h.2 ▸ RecW.ExtR.refl _⟩
            simp only [Act.put, List.setIfInBounds_toArray, List.set_cons_zero, List.set_cons_succ]
            refine GrowN.g_con rfl (fun w hw hF => ?_) ?_
            · clear hF
              go_simp
              first | exact RecW.ExtR.refl _ | (exact ⟨by omega, RecW.ExtR.refl _⟩) | simp
            iterate 2
              simp only [Act.put, List.setIfInBounds_toArray, List.set_cons_zero, List.set_cons_succ]
              refine GrowN.g_det rfl ?_
              apply Exists.intro
              refine ⟨fun w hw hF => ?_, ?_⟩
              · clear hF
                go_simp
                exact ⟨rfl, RecW.ExtR.refl _⟩
            simp only [Act.put, List.setIfInBounds_toArray, List.set_cons_zero, List.set_cons_succ]
            refine GrowN.g_nil fun w9 hw9 hF => ?_
            have HC9 := Lib.hid (HC0.out w9 hw9)
            clear hF HWT HC0
            have HB9 : Hid (Below w2.heap.size w2 w9) := (Below.refl _ w2).drew.trans hw9
            have c0 : w9.cell? ⟨sb, 0, none⟩ = some (.pointer (some ⟨ob, 0, none⟩)) := HC9.out
            clear hw9
            go_wp2_with fail
            refine (HRD.out _ HB9.out).mono ?_
            rintro e w3 ⟨a2, c2, rfl, hs3, hb3⟩
            have HB3 : Hid (Below w2.heap.size w2 w3) := HB9.out.trans (hb3.mono HB9.out.size)
            have HL3 := Lib.hid (HL2.out.below HB3.out HL2.out.low.size)
            have HK3 := Lib.hid hs3
            clear hs3 hb3 HRD c0
            have HB4 : Hid (Below w3.heap.size w3 (w3.alloc (.cells #[.int .i64 m.kind, .int .i64 m.queue, .int .i64 m.due, .int .i64 m.retry, .int .i64 m.ref, .int .i64 m.born, .string (S m.topic), .string (S m.tag), .string (S m.body), .slice a2 m.keys.length c2] 34))) := (Below.refl _ w3).alloc (Nat.le_refl _) _
            have HX4 : Hid (RecW.Boxed (w3.alloc (.cells #[.int .i64 m.kind, .int .i64 m.queue, .int .i64 m.due, .int .i64 m.retry, .int .i64 m.ref, .int .i64 m.born, .string (S m.topic), .string (S m.tag), .string (S m.body), .slice a2 m.keys.length c2] 34)) w3.heap.size #[.int .i64 m.kind, .int .i64 m.queue, .int .i64 m.due, .int .i64 m.retry, .int .i64 m.ref, .int .i64 m.born, .string (S m.topic), .string (S m.tag), .string (S m.body), .slice a2 m.keys.length c2]) := RecW.Boxed.new w3 _ _
            have HA3 : Hid (A < w3.heap.size) := Nat.lt_of_lt_of_le HBA.out HB3.out.size
            have HXA : Hid (∀ (j : Nat) (v : Value), #[.int .i64 m.kind, .int .i64 m.queue, .int .i64 m.due, .int .i64 m.retry, .int .i64 m.ref, .int .i64 m.born, .string (S m.topic), .string (S m.tag), .string (S m.body), .slice a m.keys.length c][j]? = some v → (w3.alloc (.cells #[.int .i64 m.kind, .int .i64 m.queue, .int .i64 m.due, .int .i64 m.retry, .int .i64 m.ref, .int .i64 m.born, .string (S m.topic), .string (S m.tag), .string (S m.body), .slice a2 m.keys.length c2] 34)).cell? ⟨A, j, none⟩ = some v) := fun j v hv => by
              rw [HB4.out.cell (p := ⟨A, j, none⟩) HA3.out, HB3.out.cell (p := ⟨A, j, none⟩) HBA.out]
              exact HBX.out j v hv
            have HL4 := Lib.hid (HL3.out.below HB4.out HL3.out.low.size)
            have HSM := Lib.hid (same_true m a2 a c2 c _ (HK3.out.below HB4.out) (HKW.out _ HL4.out.low) (Nat.le_trans HOK.out.keys (by decide)))
            rw [show cellsM m a2 c2 = #[.int .i64 m.kind, .int .i64 m.queue, .int .i64 m.due, .int .i64 m.retry, .int .i64 m.ref, .int .i64 m.born, .string (S m.topic), .string (S m.tag), .string (S m.body), .slice a2 m.keys.length c2] from rfl, show cellsM m a c = #[.int .i64 m.kind, .int .i64 m.queue, .int .i64 m.due, .int .i64 m.retry, .int .i64 m.ref, .int .i64 m.born, .string (S m.topic), .string (S m.tag), .string (S m.body), .slice a m.keys.length c] from rfl] at HSM
            go_upto_region 19 with fail
            generalize w3.alloc (.cells #[.int .i64 m.kind, .int .i64 m.queue, .int .i64 m.due, .int .i64 m.retry, .int .i64 m.ref, .int .i64 m.born, .string (S m.topic), .string (S m.tag), .string (S m.body), .slice a2 m.keys.length c2] 34) = w4 at *
            obtain ⟨A4, hA4⟩ : ∃ A4, w3.heap.size = A4 := ⟨_, rfl⟩
            rw [hA4] at HX4 ⊢
            have p0 : w4.cell? ⟨A4, 0, none⟩ = some (.int .i64 m.kind) := HX4.out 0 _ rfl
            have p1 : w4.cell? ⟨A4, 1, none⟩ = some (.int .i64 m.queue) := HX4.out 1 _ rfl
            have p2 : w4.cell? ⟨A4, 2, none⟩ = some (.int .i64 m.due) := HX4.out 2 _ rfl
            have p3 : w4.cell? ⟨A4, 3, none⟩ = some (.int .i64 m.retry) := HX4.out 3 _ rfl
            have p4 : w4.cell? ⟨A4, 4, none⟩ = some (.int .i64 m.ref) := HX4.out 4 _ rfl
            have p5 : w4.cell? ⟨A4, 5, none⟩ = some (.int .i64 m.born) := HX4.out 5 _ rfl
            have p6 : w4.cell? ⟨A4, 6, none⟩ = some (.string (S m.topic)) := HX4.out 6 _ rfl
            have p7 : w4.cell? ⟨A4, 7, none⟩ = some (.string (S m.tag)) := HX4.out 7 _ rfl
            have p8 : w4.cell? ⟨A4, 8, none⟩ = some (.string (S m.body)) := HX4.out 8 _ rfl
            have p9 : w4.cell? ⟨A4, 9, none⟩ = some (.slice a2 m.keys.length c2) := HX4.out 9 _ rfl
            have q0 : w4.cell? ⟨A, 0, none⟩ = some (.int .i64 m.kind) := HXA.out 0 _ rfl
            have q1 : w4.cell? ⟨A, 1, none⟩ = some (.int .i64 m.queue) := HXA.out 1 _ rfl
            have q2 : w4.cell? ⟨A, 2, none⟩ = some (.int .i64 m.due) := HXA.out 2 _ rfl
            have q3 : w4.cell? ⟨A, 3, none⟩ = some (.int .i64 m.retry) := HXA.out 3 _ rfl
            have q4 : w4.cell? ⟨A, 4, none⟩ = some (.int .i64 m.ref) := HXA.out 4 _ rfl
            have q5 : w4.cell? ⟨A, 5, none⟩ = some (.int .i64 m.born) := HXA.out 5 _ rfl
            have q6 : w4.cell? ⟨A, 6, none⟩ = some (.string (S m.topic)) := HXA.out 6 _ rfl
            have q7 : w4.cell? ⟨A, 7, none⟩ = some (.string (S m.tag)) := HXA.out 7 _ rfl
            have q8 : w4.cell? ⟨A, 8, none⟩ = some (.string (S m.body)) := HXA.out 8 _ rfl
            have q9 : w4.cell? ⟨A, 9, none⟩ = some (.slice a m.keys.length c) := HXA.out 9 _ rfl
            clear HX4 HXA HBX hA4
            go_wp2_with fail
            refine HSM.out.mono ?_
            rintro e w5 ⟨rfl, hb5⟩
            have HL5 := Lib.hid (HL4.out.below hb5 HL4.out.low.size)
            clear hb5 HSM p0 p1 p2 p3 p4 p5 p6 p7 p8 p9 q0 q1 q2 q3 q4 q5 q6 q7 q8 q9
            go_wp2_with fail
            go_roundw
            case rel => exact ⟨k + 1, (idn : Int), by omega, by go_num, rfl, S1, HL5⟩
            case measure => simp [intOf]; omega
          | true =>
            go_wp2_with fail
            refine (HPO.out _ hr.1 hr.2).mono ?_
            rintro e w2 ⟨rfl, S1, hS1, hput, hm2⟩
            have hL2 := HS0.out.next (by omega) hr.1 hr.2 HSB.out.size hS1 hput hm2
            rw [← HIDN.out] at hL2
            have HL2 := Lib.hid hL2
            have HBX : Hid (∀ (j : Nat) (v : Value), #[.int .i64 m.kind, .int .i64 m.queue, .int .i64 m.due, .int .i64 m.retry, .int .i64 m.ref, .int .i64 m.born, .string (S m.topic), .string (S m.tag), .string (S m.body), .slice a m.keys.length c][j]? = some v → w2.cell? ⟨A, j, none⟩ = some v) := fun j v hv => by
              rw [hm2.cell (p := ⟨A, j, none⟩) (by have := HZ0.out; show A < _; omega) (fun h2 => by have := HLT.out A h2; omega)]
              exact HX0.out j v hv
            have HBA : Hid (A < w2.heap.size) := by have := HZ0.out; have := hm2.size; show A < _; omega
            have HK2 : Hid (Strs w2 a (m.keys.map S)) := HKW.out w2 HL2.out.low
            have HMEM : Hid ((idn, m) ∈ S1.T.O.recs) := by have := (put_recs HS0.out.sto hS1 hput).1; rw [← HIDN.out] at this; exact this
            have HWT : Hid (∀ w, RecW.ExtR w2.drew w → Calls Tryz.prog 11 #[.pointer (some ⟨db, 0, none⟩)] w fun e w' => e = .returned (.int .i64 (S1.T.D.waits.length : Int)) ∧ w' = w) := fun w hw => by
              have := DskW.waits_any w (hS1.tape.whole.dsk.below ((Below.refl _ w2).drew.trans hw))
              rw [HL2.out.dblk] at this
              exact this
            have HC0 : Hid (∀ w, RecW.ExtR w2.drew w → w.cell? ⟨sb, 0, none⟩ = some (.pointer (some ⟨ob, 0, none⟩))) := fun w hw => by
              have : w.cell? ⟨S1.blk, 0, none⟩ = some (.pointer (some ⟨S1.T.O.blk, 0, none⟩)) := (hS1.below ((Below.refl _ w2).drew.trans hw)).cell 0 _ rfl
              rw [HL2.out.blk, HL2.out.oblk] at this
              exact this
            obtain ⟨hw, hse⟩ : S1.T.D.waits = [] ∧ S1.T.R.synced = S1.T.R.e := hput.waits
            have HSN : Hid (∀ w, RecW.ExtR w2.drew w → Calls Tryz.prog 12 #[.pointer (some ⟨ob, 0, none⟩)] w fun e w' => e = .returned (.int .i64 (S1.T.R.e : Int)) ∧ w' = w) := fun w hw => by
              have := TapeW.synced_any w (hS1.tape.below ((Below.refl _ w2).drew.trans hw))
              rw [HL2.out.oblk, hse] at this
              exact this
            have HEN : Hid (∀ w, RecW.ExtR w2.drew w → Calls Tryz.prog 13 #[.pointer (some ⟨ob, 0, none⟩)] w fun e w' => e = .returned (.int .i64 (S1.T.R.e : Int)) ∧ w' = w) := fun w hw => by
              have := TapeW.end_any w (hS1.tape.below ((Below.refl _ w2).drew.trans hw))
              rw [HL2.out.oblk] at this
              exact this
            rw [hw] at HWT
            rw [show (([] : List WriteD).length : Int) = 0 from rfl] at HWT
            clear hw hse
            generalize (S1.T.R.e : Int) = e1 at *
            obtain ⟨hid2, hid3⟩ := hid1 hr.1 hr.2
            have HRD : Hid (∀ w, Below w2.heap.size w2 w → Calls Tryz.prog 14 #[.pointer (some ⟨ob, 0, none⟩), .int .i64 (idn : Int)] w fun e w' => ∃ a c, e = .returned (.tuple #[.agg #[.int .i64 m.kind, .int .i64 m.queue, .int .i64 m.due, .int .i64 m.retry, .int .i64 m.ref, .int .i64 m.born, .string (S m.topic), .string (S m.tag), .string (S m.body), .slice a m.keys.length c], .int .i64 0]) ∧ Strs w' a (m.keys.map S) ∧ Below w.heap.size w w') := fun w hb => by
              have := TapeW.tread_any idn m w (hS1.tape.below hb) hput.quiet.up ((HTB.out w2 HL2.out.low).below hb) (Nat.le_trans HL2.out.low.size hb.size) HMEM.out
              rw [HL2.out.oblk] at this
              exact this.mono fun e w' ⟨a, c, h1, h2, h3, _⟩ => ⟨a, c, h1, h2, h3⟩
            clear hS1 hput hm2 hL2 HPO HPA k0 k1 k2 k3 k4 k5 k6 k7 k8 k9 HS HS0 hid1
            go_wp2_with fail
            refine GrowN.wp_region_n 33 [none, none, some (.inl (.bool false)), none, none, none, none, some (.inl (.int .i64 0)), none, none, none, none, none, none, some (.inl (.int .i64 e1)), none, none, none, none, some (.inl (.int .i64 e1)), some (.inl (.bool false)), none, none, none, none, none, none, none, none, none, none, none, none] RecW.ExtR (by kernel_rfl) (by kernel_rfl) (by kernel_rfl) RecW.ExtR.refl (fun _ _ _ => RecW.ExtR.trans) ?_ ?_
            · intro K hK Y hY l v w w' hR h
              simp only [List.mem_cons, List.not_mem_nil, or_false] at hK
              rcases hK with rfl | rfl | rfl | rfl | rfl | rfl | rfl | rfl | rfl | rfl | rfl | rfl | rfl | rfl | rfl | rfl | rfl | rfl | rfl | rfl | rfl | rfl | rfl | rfl | rfl | rfl | rfl | rfl | rfl | rfl | rfl | rfl | rfl <;> simp only [reduceCtorEq, Option.some.injEq, Sum.inr.injEq] at hY
            simp only [List.take_succ_cons, List.take_zero, List.drop_succ_cons, List.drop_zero]
            iterate 2
              refine GrowN.g_det rfl ?_
              apply Exists.intro
              refine ⟨fun w hw hF => ?_, ?_⟩
              · clear hF
                go_simp
                exact ⟨rfl, RecW.ExtR.refl _⟩
              simp only [Act.put, List.setIfInBounds_toArray, List.set_cons_zero, List.set_cons_succ]
            refine GrowN.g_con rfl (fun w hw hF => ?_) ?_
            · clear hF
              go_simp
              first | exact RecW.ExtR.refl _ | (exact ⟨by omega, RecW.ExtR.refl _⟩) | simp
            iterate 4
              simp only [Act.put, List.setIfInBounds_toArray, List.set_cons_zero, List.set_cons_succ]
              refine GrowN.g_det rfl ?_
              apply Exists.intro
              refine ⟨fun w hw hF => ?_, ?_⟩
              · clear hF
                go_simp
                exact ⟨rfl, RecW.ExtR.refl _⟩
            simp only [Act.put, List.setIfInBounds_toArray, List.set_cons_zero, List.set_cons_succ]
            refine GrowN.g_con rfl (fun w hw hF => ?_) ?_
            · clear hF
              go_simp
              exact (HWT.out w hw).mono fun e w' h => ⟨_, h.1, rfl, h.2 ▸ RecW.ExtR.refl _⟩
            iterate 5
              simp only [Act.put, List.setIfInBounds_toArray, List.set_cons_zero, List.set_cons_succ]
              refine GrowN.g_det rfl ?_
              apply Exists.intro
              refine ⟨fun w hw hF => ?_, ?_⟩
              · clear hF
                go_simp
                exact ⟨rfl, RecW.ExtR.refl _⟩
            simp only [Act.put, List.setIfInBounds_toArray, List.set_cons_zero, List.set_cons_succ]
            refine GrowN.g_det rfl ?_
            apply Exists.intro
            refine ⟨fun w hw hF => ?_, ?_⟩
            · clear hF
              have c1 := HC0.out w hw
              go_simp
              exact ⟨rfl, RecW.ExtR.refl _⟩
            simp only [Act.put, List.setIfInBounds_toArray, List.set_cons_zero, List.set_cons_succ]
            refine GrowN.g_con rfl (fun w hw hF => ?_) ?_
            · clear hF
              go_simp
              exact (HSN.out w hw).mono fun e w' h => ⟨_, h.1, rfl, h.2 ▸ RecW.ExtR.refl _⟩
            iterate 3
              simp only [Act.put, List.setIfInBounds_toArray, List.set_cons_zero, List.set_cons_succ]
              refine GrowN.g_det rfl ?_
              apply Exists.intro
              refine ⟨fun w hw hF => ?_, ?_⟩
              · clear hF
                go_simp
                exact ⟨rfl, RecW.ExtR.refl _⟩
            simp only [Act.put, List.setIfInBounds_toArray, List.set_cons_zero, List.set_cons_succ]
            refine GrowN.g_det rfl ?_
            apply Exists.intro
            refine ⟨fun w hw hF => ?_, ?_⟩
            · clear hF
              have c1 := HC0.out w hw
              go_simp
              exact ⟨rfl, RecW.ExtR.refl _⟩
            simp only [Act.put, List.setIfInBounds_toArray, List.set_cons_zero, List.set_cons_succ]
            refine GrowN.g_con rfl (fun w hw hF => ?_) ?_
            · clear hF
              go_simp
              exact (HEN.out w hw).mono fun e w' h => ⟨_, h.1, rfl, h.2 ▸ RecW.ExtR.refl _⟩
            simp only [Act.put, List.setIfInBounds_toArray, List.set_cons_zero, List.set_cons_succ]
            refine GrowN.g_con rfl (fun w hw hF => ?_) ?_
            · clear hF
              go_simp
              first | exact RecW.ExtR.refl _ | (exact ⟨by omega, RecW.ExtR.refl _⟩) | simp
            iterate 7
              simp only [Act.put, List.setIfInBounds_toArray, List.set_cons_zero, List.set_cons_succ]
              refine GrowN.g_det rfl ?_
              apply Exists.intro
              refine ⟨fun w hw hF => ?_, ?_⟩
              · clear hF
                go_simp
                exact ⟨rfl, RecW.ExtR.refl _⟩
            iterate 3
              simp only [Act.put, List.setIfInBounds_toArray, List.set_cons_zero, List.set_cons_succ]
              refine GrowN.g_skip rfl ?_
            iterate 2
              simp only [Act.put, List.setIfInBounds_toArray, List.set_cons_zero, List.set_cons_succ]
              refine GrowN.g_det rfl ?_
              apply Exists.intro
              refine ⟨fun w hw hF => ?_, ?_⟩
              · clear hF
                go_simp
                exact ⟨rfl, RecW.ExtR.refl _⟩
            simp only [Act.put, List.setIfInBounds_toArray, List.set_cons_zero, List.set_cons_succ]
            refine GrowN.g_nil fun w9 hw9 hF => ?_
            have HC9 := Lib.hid (HC0.out w9 hw9)
            clear hF HWT HC0
            have HB9 : Hid (Below w2.heap.size w2 w9) := (Below.refl _ w2).drew.trans hw9
            have c0 : w9.cell? ⟨sb, 0, none⟩ = some (.pointer (some ⟨ob, 0, none⟩)) := HC9.out
            clear hw9
            go_wp2_with fail
            refine (HRD.out _ HB9.out).mono ?_
            rintro e w3 ⟨a2, c2, rfl, hs3, hb3⟩
            have HB3 : Hid (Below w2.heap.size w2 w3) := HB9.out.trans (hb3.mono HB9.out.size)
            have HL3 := Lib.hid (HL2.out.below HB3.out HL2.out.low.size)
            have HK3 := Lib.hid hs3
            clear hs3 hb3 HRD c0
            have HB4 : Hid (Below w3.heap.size w3 (w3.alloc (.cells #[.int .i64 m.kind, .int .i64 m.queue, .int .i64 m.due, .int .i64 m.retry, .int .i64 m.ref, .int .i64 m.born, .string (S m.topic), .string (S m.tag), .string (S m.body), .slice a2 m.keys.length c2] 34))) := (Below.refl _ w3).alloc (Nat.le_refl _) _
            have HX4 : Hid (RecW.Boxed (w3.alloc (.cells #[.int .i64 m.kind, .int .i64 m.queue, .int .i64 m.due, .int .i64 m.retry, .int .i64 m.ref, .int .i64 m.born, .string (S m.topic), .string (S m.tag), .string (S m.body), .slice a2 m.keys.length c2] 34)) w3.heap.size #[.int .i64 m.kind, .int .i64 m.queue, .int .i64 m.due, .int .i64 m.retry, .int .i64 m.ref, .int .i64 m.born, .string (S m.topic), .string (S m.tag), .string (S m.body), .slice a2 m.keys.length c2]) := RecW.Boxed.new w3 _ _
            have HA3 : Hid (A < w3.heap.size) := Nat.lt_of_lt_of_le HBA.out HB3.out.size
            have HXA : Hid (∀ (j : Nat) (v : Value), #[.int .i64 m.kind, .int .i64 m.queue, .int .i64 m.due, .int .i64 m.retry, .int .i64 m.ref, .int .i64 m.born, .string (S m.topic), .string (S m.tag), .string (S m.body), .slice a m.keys.length c][j]? = some v → (w3.alloc (.cells #[.int .i64 m.kind, .int .i64 m.queue, .int .i64 m.due, .int .i64 m.retry, .int .i64 m.ref, .int .i64 m.born, .string (S m.topic), .string (S m.tag), .string (S m.body), .slice a2 m.keys.length c2] 34)).cell? ⟨A, j, none⟩ = some v) := fun j v hv => by
              rw [HB4.out.cell (p := ⟨A, j, none⟩) HA3.out, HB3.out.cell (p := ⟨A, j, none⟩) HBA.out]
              exact HBX.out j v hv
            have HL4 := Lib.hid (HL3.out.below HB4.out HL3.out.low.size)
            have HSM := Lib.hid (same_true m a2 a c2 c _ (HK3.out.below HB4.out) (HKW.out _ HL4.out.low) (Nat.le_trans HOK.out.keys (by decide)))
            rw [show cellsM m a2 c2 = #[.int .i64 m.kind, .int .i64 m.queue, .int .i64 m.due, .int .i64 m.retry, .int .i64 m.ref, .int .i64 m.born, .string (S m.topic), .string (S m.tag), .string (S m.body), .slice a2 m.keys.length c2] from rfl, show cellsM m a c = #[.int .i64 m.kind, .int .i64 m.queue, .int .i64 m.due, .int .i64 m.retry, .int .i64 m.ref, .int .i64 m.born, .string (S m.topic), .string (S m.tag), .string (S m.body), .slice a m.keys.length c] from rfl] at HSM
            go_upto_region 19 with fail
            generalize w3.alloc (.cells #[.int .i64 m.kind, .int .i64 m.queue, .int .i64 m.due, .int .i64 m.retry, .int .i64 m.ref, .int .i64 m.born, .string (S m.topic), .string (S m.tag), .string (S m.body), .slice a2 m.keys.length c2] 34) = w4 at *
            obtain ⟨A4, hA4⟩ : ∃ A4, w3.heap.size = A4 := ⟨_, rfl⟩
            rw [hA4] at HX4 ⊢
            have p0 : w4.cell? ⟨A4, 0, none⟩ = some (.int .i64 m.kind) := HX4.out 0 _ rfl
            have p1 : w4.cell? ⟨A4, 1, none⟩ = some (.int .i64 m.queue) := HX4.out 1 _ rfl
            have p2 : w4.cell? ⟨A4, 2, none⟩ = some (.int .i64 m.due) := HX4.out 2 _ rfl
            have p3 : w4.cell? ⟨A4, 3, none⟩ = some (.int .i64 m.retry) := HX4.out 3 _ rfl
            have p4 : w4.cell? ⟨A4, 4, none⟩ = some (.int .i64 m.ref) := HX4.out 4 _ rfl
            have p5 : w4.cell? ⟨A4, 5, none⟩ = some (.int .i64 m.born) := HX4.out 5 _ rfl
            have p6 : w4.cell? ⟨A4, 6, none⟩ = some (.string (S m.topic)) := HX4.out 6 _ rfl
            have p7 : w4.cell? ⟨A4, 7, none⟩ = some (.string (S m.tag)) := HX4.out 7 _ rfl
            have p8 : w4.cell? ⟨A4, 8, none⟩ = some (.string (S m.body)) := HX4.out 8 _ rfl
            have p9 : w4.cell? ⟨A4, 9, none⟩ = some (.slice a2 m.keys.length c2) := HX4.out 9 _ rfl
            have q0 : w4.cell? ⟨A, 0, none⟩ = some (.int .i64 m.kind) := HXA.out 0 _ rfl
            have q1 : w4.cell? ⟨A, 1, none⟩ = some (.int .i64 m.queue) := HXA.out 1 _ rfl
            have q2 : w4.cell? ⟨A, 2, none⟩ = some (.int .i64 m.due) := HXA.out 2 _ rfl
            have q3 : w4.cell? ⟨A, 3, none⟩ = some (.int .i64 m.retry) := HXA.out 3 _ rfl
            have q4 : w4.cell? ⟨A, 4, none⟩ = some (.int .i64 m.ref) := HXA.out 4 _ rfl
            have q5 : w4.cell? ⟨A, 5, none⟩ = some (.int .i64 m.born) := HXA.out 5 _ rfl
            have q6 : w4.cell? ⟨A, 6, none⟩ = some (.string (S m.topic)) := HXA.out 6 _ rfl
            have q7 : w4.cell? ⟨A, 7, none⟩ = some (.string (S m.tag)) := HXA.out 7 _ rfl
            have q8 : w4.cell? ⟨A, 8, none⟩ = some (.string (S m.body)) := HXA.out 8 _ rfl
            have q9 : w4.cell? ⟨A, 9, none⟩ = some (.slice a m.keys.length c) := HXA.out 9 _ rfl
            clear HX4 HXA HBX hA4
            go_wp2_with fail
            refine HSM.out.mono ?_
            rintro e w5 ⟨rfl, hb5⟩
            have HL5 := Lib.hid (HL4.out.below hb5 HL4.out.low.size)
            clear hb5 HSM p0 p1 p2 p3 p4 p5 p6 p7 p8 p9 q0 q1 q2 q3 q4 q5 q6 q7 q8 q9
            go_wp2_with fail
            go_roundw
            case rel => exact ⟨k + 1, (idn : Int), by omega, by go_num, rfl, S1, HL5⟩
            case measure => simp [intOf]; omega
        · go_wp2_with fail
          refine (HPO.out _ hr.1 hr.2).mono ?_
          rintro e w2 ⟨rfl, S1, hS1, hput, hm2⟩
          have hL2 := HS0.out.next (by omega) hr.1 hr.2 HSB.out.size hS1 hput hm2
          rw [← HIDN.out] at hL2
          have HL2 := Lib.hid hL2
          have HBX : Hid (∀ (j : Nat) (v : Value), #[.int .i64 m.kind, .int .i64 m.queue, .int .i64 m.due, .int .i64 m.retry, .int .i64 m.ref, .int .i64 m.born, .string (S m.topic), .string (S m.tag), .string (S m.body), .slice a m.keys.length c][j]? = some v → w2.cell? ⟨A, j, none⟩ = some v) := fun j v hv => by
            rw [hm2.cell (p := ⟨A, j, none⟩) (by have := HZ0.out; show A < _; omega) (fun h2 => by have := HLT.out A h2; omega)]
            exact HX0.out j v hv
          have HBA : Hid (A < w2.heap.size) := by have := HZ0.out; have := hm2.size; show A < _; omega
          have HK2 : Hid (Strs w2 a (m.keys.map S)) := HKW.out w2 HL2.out.low
          have HMEM : Hid ((idn, m) ∈ S1.T.O.recs) := by have := (put_recs HS0.out.sto hS1 hput).1; rw [← HIDN.out] at this; exact this
          have HWT : Hid (∀ w, RecW.ExtR w2.drew w → Calls Tryz.prog 11 #[.pointer (some ⟨db, 0, none⟩)] w fun e w' => e = .returned (.int .i64 (S1.T.D.waits.length : Int)) ∧ w' = w) := fun w hw => by
            have := DskW.waits_any w (hS1.tape.whole.dsk.below ((Below.refl _ w2).drew.trans hw))
            rw [HL2.out.dblk] at this
            exact this
          have HC0 : Hid (∀ w, RecW.ExtR w2.drew w → w.cell? ⟨sb, 0, none⟩ = some (.pointer (some ⟨ob, 0, none⟩))) := fun w hw => by
            have : w.cell? ⟨S1.blk, 0, none⟩ = some (.pointer (some ⟨S1.T.O.blk, 0, none⟩)) := (hS1.below ((Below.refl _ w2).drew.trans hw)).cell 0 _ rfl
            rw [HL2.out.blk, HL2.out.oblk] at this
            exact this
          obtain ⟨hw, hse⟩ : S1.T.D.waits ≠ [] ∧ S1.T.R.synced = S0.T.R.synced := hput.waits
          have hw1 : (0 : Int) < (S1.T.D.waits.length : Int) := by have := List.length_pos_iff.2 hw; omega
          generalize (S1.T.D.waits.length : Int) = wn at *
          clear hw hse
          obtain ⟨hid2, hid3⟩ := hid1 hr.1 hr.2
          have HRD : Hid (∀ w, Below w2.heap.size w2 w → Calls Tryz.prog 14 #[.pointer (some ⟨ob, 0, none⟩), .int .i64 (idn : Int)] w fun e w' => ∃ a c, e = .returned (.tuple #[.agg #[.int .i64 m.kind, .int .i64 m.queue, .int .i64 m.due, .int .i64 m.retry, .int .i64 m.ref, .int .i64 m.born, .string (S m.topic), .string (S m.tag), .string (S m.body), .slice a m.keys.length c], .int .i64 0]) ∧ Strs w' a (m.keys.map S) ∧ Below w.heap.size w w') := fun w hb => by
            have := TapeW.tread_any idn m w (hS1.tape.below hb) hput.quiet.up ((HTB.out w2 HL2.out.low).below hb) (Nat.le_trans HL2.out.low.size hb.size) HMEM.out
            rw [HL2.out.oblk] at this
            exact this.mono fun e w' ⟨a, c, h1, h2, h3, _⟩ => ⟨a, c, h1, h2, h3⟩
          clear hS1 hput hm2 hL2 HPO HPA k0 k1 k2 k3 k4 k5 k6 k7 k8 k9 HS HS0 hid1
          go_wp2_with fail
          refine GrowN.wp_region_n 33 [none, none, some (.inl (.bool false)), none, none, none, none, none, none, none, none, none, none, none, none, none, none, none, none, none, none, none, none, none, none, none, none, none, none, some (.inl (.int .i64 wn)), some (.inl (.bool false)), none, none] RecW.ExtR (by kernel_rfl) (by kernel_rfl) (by kernel_rfl) RecW.ExtR.refl (fun _ _ _ => RecW.ExtR.trans) ?_ ?_
          · intro K hK Y hY l v w w' hR h
            simp only [List.mem_cons, List.not_mem_nil, or_false] at hK
            rcases hK with rfl | rfl | rfl | rfl | rfl | rfl | rfl | rfl | rfl | rfl | rfl | rfl | rfl | rfl | rfl | rfl | rfl | rfl | rfl | rfl | rfl | rfl | rfl | rfl | rfl | rfl | rfl | rfl | rfl | rfl | rfl | rfl | rfl <;> simp only [reduceCtorEq, Option.some.injEq, Sum.inr.injEq] at hY
          simp only [List.take_succ_cons, List.take_zero, List.drop_succ_cons, List.drop_zero]
          iterate 2
            refine GrowN.g_det rfl ?_
            apply Exists.intro
            refine ⟨fun w hw hF => ?_, ?_⟩
            · clear hF
              go_simp
              exact ⟨rfl, RecW.ExtR.refl _⟩
            simp only [Act.put, List.setIfInBounds_toArray, List.set_cons_zero, List.set_cons_succ]
          refine GrowN.g_con rfl (fun w hw hF => ?_) ?_
          · clear hF
            go_simp
            first | exact RecW.ExtR.refl _ | (exact ⟨by omega, RecW.ExtR.refl _⟩) | simp
          iterate 3
            simp only [Act.put, List.setIfInBounds_toArray, List.set_cons_zero, List.set_cons_succ]
            refine GrowN.g_det rfl ?_
            apply Exists.intro
            refine ⟨fun w hw hF => ?_, ?_⟩
            · clear hF
              go_simp
              exact ⟨rfl, RecW.ExtR.refl _⟩
          iterate 16
            simp only [Act.put, List.setIfInBounds_toArray, List.set_cons_zero, List.set_cons_succ]
            refine GrowN.g_skip rfl ?_
          iterate 7
            simp only [Act.put, List.setIfInBounds_toArray, List.set_cons_zero, List.set_cons_succ]
            refine GrowN.g_det rfl ?_
            apply Exists.intro
            refine ⟨fun w hw hF => ?_, ?_⟩
            · clear hF
              go_simp
              exact ⟨rfl, RecW.ExtR.refl _⟩
          simp only [Act.put, List.setIfInBounds_toArray, List.set_cons_zero, List.set_cons_succ]
          refine GrowN.g_con rfl (fun w hw hF => ?_) ?_
          · clear hF
            go_simp
            exact (HWT.out w hw).mono fun e w' h => ⟨_, h.1, rfl, h.2 ▸ RecW.ExtR.refl _⟩
          simp only [Act.put, List.setIfInBounds_toArray, List.set_cons_zero, List.set_cons_succ]
          refine GrowN.g_con rfl (fun w hw hF => ?_) ?_
          · clear hF
            go_simp
            first | exact RecW.ExtR.refl _ | (exact ⟨by omega, RecW.ExtR.refl _⟩) | simp
          iterate 2
            simp only [Act.put, List.setIfInBounds_toArray, List.set_cons_zero, List.set_cons_succ]
            refine GrowN.g_det rfl ?_
            apply Exists.intro
            refine ⟨fun w hw hF => ?_, ?_⟩
            · clear hF
              go_simp
              exact ⟨rfl, RecW.ExtR.refl _⟩
          simp only [Act.put, List.setIfInBounds_toArray, List.set_cons_zero, List.set_cons_succ]
          refine GrowN.g_nil fun w9 hw9 hF => ?_
          have HC9 := Lib.hid (HC0.out w9 hw9)
          clear hF HWT HC0
          have HB9 : Hid (Below w2.heap.size w2 w9) := (Below.refl _ w2).drew.trans hw9
          have c0 : w9.cell? ⟨sb, 0, none⟩ = some (.pointer (some ⟨ob, 0, none⟩)) := HC9.out
          clear hw9
          go_wp2_with fail
          refine (HRD.out _ HB9.out).mono ?_
          rintro e w3 ⟨a2, c2, rfl, hs3, hb3⟩
          have HB3 : Hid (Below w2.heap.size w2 w3) := HB9.out.trans (hb3.mono HB9.out.size)
          have HL3 := Lib.hid (HL2.out.below HB3.out HL2.out.low.size)
          have HK3 := Lib.hid hs3
          clear hs3 hb3 HRD c0
          have HB4 : Hid (Below w3.heap.size w3 (w3.alloc (.cells #[.int .i64 m.kind, .int .i64 m.queue, .int .i64 m.due, .int .i64 m.retry, .int .i64 m.ref, .int .i64 m.born, .string (S m.topic), .string (S m.tag), .string (S m.body), .slice a2 m.keys.length c2] 34))) := (Below.refl _ w3).alloc (Nat.le_refl _) _
          have HX4 : Hid (RecW.Boxed (w3.alloc (.cells #[.int .i64 m.kind, .int .i64 m.queue, .int .i64 m.due, .int .i64 m.retry, .int .i64 m.ref, .int .i64 m.born, .string (S m.topic), .string (S m.tag), .string (S m.body), .slice a2 m.keys.length c2] 34)) w3.heap.size #[.int .i64 m.kind, .int .i64 m.queue, .int .i64 m.due, .int .i64 m.retry, .int .i64 m.ref, .int .i64 m.born, .string (S m.topic), .string (S m.tag), .string (S m.body), .slice a2 m.keys.length c2]) := RecW.Boxed.new w3 _ _
          have HA3 : Hid (A < w3.heap.size) := Nat.lt_of_lt_of_le HBA.out HB3.out.size
          have HXA : Hid (∀ (j : Nat) (v : Value), #[.int .i64 m.kind, .int .i64 m.queue, .int .i64 m.due, .int .i64 m.retry, .int .i64 m.ref, .int .i64 m.born, .string (S m.topic), .string (S m.tag), .string (S m.body), .slice a m.keys.length c][j]? = some v → (w3.alloc (.cells #[.int .i64 m.kind, .int .i64 m.queue, .int .i64 m.due, .int .i64 m.retry, .int .i64 m.ref, .int .i64 m.born, .string (S m.topic), .string (S m.tag), .string (S m.body), .slice a2 m.keys.length c2] 34)).cell? ⟨A, j, none⟩ = some v) := fun j v hv => by
            rw [HB4.out.cell (p := ⟨A, j, none⟩) HA3.out, HB3.out.cell (p := ⟨A, j, none⟩) HBA.out]
            exact HBX.out j v hv
          have HL4 := Lib.hid (HL3.out.below HB4.out HL3.out.low.size)
          have HSM := Lib.hid (same_true m a2 a c2 c _ (HK3.out.below HB4.out) (HKW.out _ HL4.out.low) (Nat.le_trans HOK.out.keys (by decide)))
          rw [show cellsM m a2 c2 = #[.int .i64 m.kind, .int .i64 m.queue, .int .i64 m.due, .int .i64 m.retry, .int .i64 m.ref, .int .i64 m.born, .string (S m.topic), .string (S m.tag), .string (S m.body), .slice a2 m.keys.length c2] from rfl, show cellsM m a c = #[.int .i64 m.kind, .int .i64 m.queue, .int .i64 m.due, .int .i64 m.retry, .int .i64 m.ref, .int .i64 m.born, .string (S m.topic), .string (S m.tag), .string (S m.body), .slice a m.keys.length c] from rfl] at HSM
          go_upto_region 19 with fail
          generalize w3.alloc (.cells #[.int .i64 m.kind, .int .i64 m.queue, .int .i64 m.due, .int .i64 m.retry, .int .i64 m.ref, .int .i64 m.born, .string (S m.topic), .string (S m.tag), .string (S m.body), .slice a2 m.keys.length c2] 34) = w4 at *
          obtain ⟨A4, hA4⟩ : ∃ A4, w3.heap.size = A4 := ⟨_, rfl⟩
          rw [hA4] at HX4 ⊢
          have p0 : w4.cell? ⟨A4, 0, none⟩ = some (.int .i64 m.kind) := HX4.out 0 _ rfl
          have p1 : w4.cell? ⟨A4, 1, none⟩ = some (.int .i64 m.queue) := HX4.out 1 _ rfl
          have p2 : w4.cell? ⟨A4, 2, none⟩ = some (.int .i64 m.due) := HX4.out 2 _ rfl
          have p3 : w4.cell? ⟨A4, 3, none⟩ = some (.int .i64 m.retry) := HX4.out 3 _ rfl
          have p4 : w4.cell? ⟨A4, 4, none⟩ = some (.int .i64 m.ref) := HX4.out 4 _ rfl
          have p5 : w4.cell? ⟨A4, 5, none⟩ = some (.int .i64 m.born) := HX4.out 5 _ rfl
          have p6 : w4.cell? ⟨A4, 6, none⟩ = some (.string (S m.topic)) := HX4.out 6 _ rfl
          have p7 : w4.cell? ⟨A4, 7, none⟩ = some (.string (S m.tag)) := HX4.out 7 _ rfl
          have p8 : w4.cell? ⟨A4, 8, none⟩ = some (.string (S m.body)) := HX4.out 8 _ rfl
          have p9 : w4.cell? ⟨A4, 9, none⟩ = some (.slice a2 m.keys.length c2) := HX4.out 9 _ rfl
          have q0 : w4.cell? ⟨A, 0, none⟩ = some (.int .i64 m.kind) := HXA.out 0 _ rfl
          have q1 : w4.cell? ⟨A, 1, none⟩ = some (.int .i64 m.queue) := HXA.out 1 _ rfl
          have q2 : w4.cell? ⟨A, 2, none⟩ = some (.int .i64 m.due) := HXA.out 2 _ rfl
          have q3 : w4.cell? ⟨A, 3, none⟩ = some (.int .i64 m.retry) := HXA.out 3 _ rfl
          have q4 : w4.cell? ⟨A, 4, none⟩ = some (.int .i64 m.ref) := HXA.out 4 _ rfl
          have q5 : w4.cell? ⟨A, 5, none⟩ = some (.int .i64 m.born) := HXA.out 5 _ rfl
          have q6 : w4.cell? ⟨A, 6, none⟩ = some (.string (S m.topic)) := HXA.out 6 _ rfl
          have q7 : w4.cell? ⟨A, 7, none⟩ = some (.string (S m.tag)) := HXA.out 7 _ rfl
          have q8 : w4.cell? ⟨A, 8, none⟩ = some (.string (S m.body)) := HXA.out 8 _ rfl
          have q9 : w4.cell? ⟨A, 9, none⟩ = some (.slice a m.keys.length c) := HXA.out 9 _ rfl
          clear HX4 HXA HBX hA4
          go_wp2_with fail
          refine HSM.out.mono ?_
          rintro e w5 ⟨rfl, hb5⟩
          have HL5 := Lib.hid (HL4.out.below hb5 HL4.out.low.size)
          clear hb5 HSM p0 p1 p2 p3 p4 p5 p6 p7 p8 p9 q0 q1 q2 q3 q4 q5 q6 q7 q8 q9
          go_wp2_with fail
          go_roundw
          case rel => exact ⟨k + 1, (idn : Int), by omega, by go_num, rfl, S1, HL5⟩
          case measure => simp [intOf]; omega
      · have hr : rightL m = false ∨ m.kind = 0 := by
          by_cases h : rightL m = true
          · right
            by_cases h0 : m.kind = 0
            · exact h0
            · exact absurd ⟨h, h0⟩ hr
          · left; simpa using h
        rcases hks with hks | hks
        · obtain ⟨gb, ob2, rfl, hcb⟩ := HB.out k (by rw [List.length_map]; omega)
          rw [List.getElem_map] at hcb
          have hcb1 : w1.cell? ⟨gb, ob2 + k, none⟩ = some (.bool (bs[k]'(by omega))) := by rw [HSB.out.cell (cell_lt hcb)]; exact hcb
          clear hcb
          generalize bs[k]'(by omega) = sy at *
          cases sy with
          | false =>
            go_wp2_with fail
            refine (HPA.out _ hr).mono ?_
            rintro e w2 ⟨rfl, hb2⟩
            have HL2 := Lib.hid (HS0.out.below hb2 HSB.out.size).skip
            clear hb2 HPO HPA k0 k1 k2 k3 k4 k5 k6 k7 k8 k9 HS HS0 hid1
            go_wp2_with fail
            go_roundw
            case rel => exact ⟨k + 1, last, by omega, by go_num, rfl, S0, HL2⟩
            case measure => simp [intOf]; omega
          | true =>
            go_wp2_with fail
            refine (HPA.out _ hr).mono ?_
            rintro e w2 ⟨rfl, hb2⟩
            have HL2 := Lib.hid (HS0.out.below hb2 HSB.out.size).skip
            clear hb2 HPO HPA k0 k1 k2 k3 k4 k5 k6 k7 k8 k9 HS HS0 hid1
            go_wp2_with fail
            go_roundw
            case rel => exact ⟨k + 1, last, by omega, by go_num, rfl, S0, HL2⟩
            case measure => simp [intOf]; omega
        · go_wp2_with fail
          refine (HPA.out _ hr).mono ?_
          rintro e w2 ⟨rfl, hb2⟩
          have HL2 := Lib.hid (HS0.out.below hb2 HSB.out.size).skip
          clear hb2 HPO HPA k0 k1 k2 k3 k4 k5 k6 k7 k8 k9 HS HS0 hid1
          go_wp2_with fail
          go_roundw
          case rel => exact ⟨k + 1, last, by omega, by go_num, rfl, S0, HL2⟩
          case measure => simp [intOf]; omega
    · have hkn : k = ms.length := by omega
      subst hkn
      go_wp2_with fail
      go_ret
      exact ⟨rfl, HS.out.low⟩
end Go.Proofs.YtikjahfeecdfgaaGreatDoor.StoW
namespace Go.Proofs.YtikjahfeecdfgaaGreatDoor
open Go.ChangeShapes Go.WideShapes Go.ChangeAt Go.RowKit
set_option linter.unusedVariables false
set_option maxRecDepth 100000
def laidL : List (String × DataW Unit) := [("math/bits.deBruijn32tab", Rows.laid_math_bits_deBruijn32tab), ("math/bits.deBruijn64tab", Rows.laid_math_bits_deBruijn64tab), ("internal/strconv.uint64pow10", Rows.laid_internal_strconv_uint64pow10), ("unicode/utf8.acceptRanges", Rows.laid_unicode_utf8_acceptRanges), ("strconv.ErrRange", Rows.laid_strconv_ErrRange), ("strconv.ErrSyntax", Rows.laid_strconv_ErrSyntax), ("unicode/utf8.first", Rows.laid_unicode_utf8_first)]
theorem laid_plain : ∀ W, laidMetH Tryz.prog laidL W = laidMet Tryz.prog laidL W := fun W => MakeChecks.laidMetH_plain _ _ _ (by kernel_rfl)
theorem tab_of {W : World} (h : laidMetH Tryz.prog laidL W) : SegW.Tab W := by
  rw [laid_plain] at h
  obtain ⟨ps, hL, _, _⟩ := h
  obtain ⟨g1, t1, c1, f1, p1, q1, _, _, _, _, hL, _⟩ := hL
  obtain ⟨g2, t2, c2, f2, p2, q2, _, _, _, _, hL, _⟩ := hL
  obtain ⟨g3, t3, c3, f3, p3, q3, hg3, ht3, hv3, hd3, hL, _⟩ := hL
  obtain rfl := Option.some.inj ((show Tryz.prog.globalNamed "internal/strconv.uint64pow10" = some 1 by kernel_rfl).symm.trans hg3)
  obtain rfl := Option.some.inj ((show (Tryz.prog.globals[1]?).map (·.type) = some 398 by kernel_rfl).symm.trans ht3)
  show Lib.TabIs Tryz.prog W "internal/strconv.uint64pow10" .u64 Lib.pow10Tab
  unfold Lib.TabIs
  rw [hv3, ← Lib.cells_of_tab Tryz.underlying398 Tryz.underlying315 (by kernel_rfl) (by kernel_rfl) (show DataW.trod (fun _ => ()) Tryz.prog W 0 (fun _ => true) false f3 398 c3.toList = some (Lib.tabData .u64 Lib.pow10Tab, p3) from hd3)]
section
variable {H : Type} {enc : TypeId × Value → H}
theorem returns_laid {a : Assume} {os : Os} {f : FuncId} {fn : Func} {s : ChangeSpec} {conds : List PathCond} {apart fresh handsOn again : Bool}
    (started : os.Started) (noInit : Tryz.prog.inits.idxOf? f = none) (hfn : Tryz.prog.funcs[f]? = some fn)
    (witness : ∃ (w : World) (tape : Tape) (i : Input), w.os = os ∧ (w.forCall tape i).Shaped Tryz.prog ∧ i.vars = [] ∧ Input.okWide Tryz.prog (w.forCall tape i) .any w.heap.size f i ∧
      ((s.pre enc Tryz.prog fn conds apart (w.forCall tape i).memory i.args ∧ laidMetH Tryz.prog laidL (w.forCall tape i).memory) ∧ sizedMet enc Tryz.prog fn (OpenSpec.ofChange s) apart (w.forCall tape i).memory i.args) ∧ a.holds Tryz.prog (lone (Frame.enter Tryz.prog f i.args .normal) [] (w.forCall tape i)))
    (contract : ∀ (W : World) (base : Nat) (args : Array Value) (ds gs : List (DataW H)) (before : List MemPlace),
      (∀ (j : Nat) t v, fn.params[j]? = some t → args[j]? = some v → Value.okWide Tryz.prog W .any base t v) →
      DataW.Whole enc Tryz.prog fn.params.toList s.vars apart W args.toList ds gs before →
      (DataW.weightsEach Tryz.prog (fn.params.toList ++ s.plain.varTypes Tryz.prog) (ds ++ gs)).all (· ≤ reachBytes) = true → SegW.Tab W →
      Calls Tryz.prog f args W fun e W' => ∃ v, e = .returned v ∧ s.post enc Tryz.prog fn apart fresh handsOn again W args v W') :
    ReturnsInHanded a Tryz.checked os f .any (fun w args => (s.pre enc Tryz.prog fn conds apart w args ∧ laidMetH Tryz.prog laidL w) ∧ sizedMet enc Tryz.prog fn (OpenSpec.ofChange s) apart w args) (s.post enc Tryz.prog fn apart fresh handsOn again) := by
  refine returnsInHanded_of_calls (C := Tryz.checked) own started noInit witness ?_
  intro w tape i _ hsh _ hok hpre hholds
  obtain ⟨_, _, _, fn', hfn', _, _, _, _, hval⟩ := hok
  have e : fn' = fn := Option.some.inj (hfn'.symm.trans hfn)
  subst e
  obtain ⟨⟨⟨ds, gs, before, hw, hc⟩, hx⟩, hz⟩ := hpre
  have hw' := DataW.Whole.of_heap (w' := w.forCall tape i) (by rfl) hw
  have hx' : laidMetH Tryz.prog laidL (w.forCall tape i) := hx.of_heap (by rfl)
  refine (contract (w.forCall tape i) w.heap.size i.args ds gs before hval hw' (hz.weights hw) (tab_of hx')).mono fun e W' ⟨v, he, hp⟩ => ?_
  subst he
  exact ChangeSpec.post_blind hp
end
theorem laid_met (os : Os) (args : Array Value) : laidMetH Tryz.prog laidL ((World.laidAll Tryz.prog os laidL).forCall (fun _ _ => 0) ⟨#[], args, []⟩).memory := by
  rw [laid_plain]
  exact laidMet_laidAll _ (by kernel_rfl) (by kernel_rfl)
theorem laid_shaped (os : Os) (args : Array Value) : ((World.laidAll Tryz.prog os laidL).forCall (fun _ _ => 0) ⟨#[], args, []⟩).Shaped Tryz.prog := World.shaped_of_ZipB (by kernel_rfl) (by kernel_rfl)
end Go.Proofs.YtikjahfeecdfgaaGreatDoor
